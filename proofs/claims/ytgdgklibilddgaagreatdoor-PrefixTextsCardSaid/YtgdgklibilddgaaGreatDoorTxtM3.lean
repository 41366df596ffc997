/-
A part of the proof of prefixTexts_card: its lemmas and walks, part 3. No condition.
-/
import Derived.Lib.AppendZerosOnto
import Derived.Test.YtgdgklibilddgaaGreatDoorTxtM2
set_option linter.unusedVariables false
set_option linter.unusedSimpArgs false
namespace Go.Proofs.YtgdgklibilddgaaGreatDoor

theorem take_at {s : ByteArray} {k : Nat} (h : k < s.size) : (bts s).take (k + 1) = (bts s).take k ++ [s[k]'h] := by
  have hl : k < (bts s).length := by simpa [bts] using h
  rw [List.take_succ_eq_append_getElem hl]
  rfl
theorem dec_snoc {p : List UInt8} {a : UInt8} (c : UInt8) : decide (c ∈ p ++ [a]) = (decide (c ∈ p) || (a.toNat : Int) == (c.toNat : Int)) := by
  by_cases h1 : c ∈ p
  · simp [h1]
  · by_cases h2 : a = c
    · simp [h1, h2]
    · have : ¬ a.toNat = c.toNat := fun k => h2 (UInt8.toNat.inj k)
      have h3 : ¬ c = a := fun k => h2 k.symm
      have h4 : ((a.toNat : Int) == (c.toNat : Int)) = false := by simp; omega
      rw [h4]
      simp [h1, h3]
theorem has_snoc {s : ByteArray} {k : Nat} (h : k < s.size) (c : UInt8) : decide (c ∈ (bts s).take (k + 1)) = (decide (c ∈ (bts s).take k) || ((s[k]'h).toNat : Int) == (c.toNat : Int)) := by
  rw [take_at h, dec_snoc]
theorem drop_end (s : ByteArray) : (bts s).drop s.size = [] := List.drop_of_length_le (by rw [bts_len]; exact Nat.le_refl _)
/-- the reading's state ahead of place x -/
def RefAt (s : ByteArray) (R : Option (Bool × Nat)) (x : Nat) (G : List Nat) (gap : Option Nat) : Prop :=
  x ≤ s.size ∧ (∀ g ∈ G, g < 65536) ∧ (∀ j, gap = some j → j ≤ G.length) ∧ G.length ≤ 8 ∧ ((x < s.size ∧ refT ((bts s).drop x) G gap = R) ∨ (x = s.size ∧ fin G gap = R))
/-- a piece: from x to e -/
def PieceAt (s : ByteArray) (x e : Nat) (p : List UInt8) : Prop :=
  x + p.length = e ∧ e ≤ s.size ∧ (bts s).drop x = p ++ (bts s).drop e ∧ (58 : UInt8) ∉ p ∧ (e = s.size ∨ ∃ h : e < s.size, (s[e]'h).toNat = 58)
theorem PieceAt.get {s : ByteArray} {x e : Nat} {p : List UInt8} (h : PieceAt s x e p) {y : Nat} (hx : x ≤ y) (hy : y < e) : ∃ hs : y < s.size, p[y - x]? = some (s[y]'hs) := by
  obtain ⟨h1, h2, h3, _⟩ := h
  refine ⟨by omega, ?_⟩
  have e1 : ((bts s).drop x)[y - x]? = some (s[y]'(by omega)) := by
    rw [List.getElem?_drop, show x + (y - x) = y by omega]
    exact List.getElem?_eq_getElem (by rw [bts_len]; omega)
  rw [h3, List.getElem?_append_left (by omega)] at e1
  exact e1
theorem PieceAt.snoc {s : ByteArray} {x e : Nat} {p : List UInt8} (h : PieceAt s x e p) {y : Nat} (hx : x ≤ y) (hy : y < e) : ∃ hs : y < s.size, (s[y]'hs).toNat ≠ 58 ∧ p.take (y + 1 - x) = p.take (y - x) ++ [s[y]'hs] := by
  obtain ⟨hs, hg⟩ := h.get hx hy
  refine ⟨hs, fun k => h.2.2.2.1 ?_, ?_⟩
  · have : s[y] = (58 : UInt8) := UInt8.toNat.inj k
    rw [this] at hg
    exact List.mem_of_getElem? hg
  · obtain ⟨hl, he⟩ := List.getElem?_eq_some_iff.1 hg
    rw [show y + 1 - x = y - x + 1 by omega, List.take_succ_eq_append_getElem hl, he]
theorem RefAt.piece {s : ByteArray} {x : Nat} (hx : x ≤ s.size) : ∃ e p, PieceAt s x e p := by
  obtain ⟨p, tl, e1, e2, e3⟩ := span_at 58 ((bts s).drop x)
  have hl := congrArg List.length e1
  rw [List.length_drop, bts_len, List.length_append] at hl
  have hd : (bts s).drop (x + p.length) = tl := by rw [← List.drop_drop, e1, List.drop_left]
  refine ⟨x + p.length, p, rfl, by omega, by rw [hd]; exact e1, e2, ?_⟩
  rcases e3 with ⟨rfl, _⟩ | ⟨r, rfl, _⟩
  · simp at hl; exact .inl (by omega)
  · simp at hl
    have hlt : x + p.length < s.size := by omega
    refine .inr ⟨hlt, ?_⟩
    rw [drop_at hlt] at hd
    injection hd with h1 _
    rw [h1]; rfl
theorem PieceAt.tail {s : ByteArray} {x e : Nat} {p : List UInt8} (h : PieceAt s x e p) : (bts s).drop e = [] ∨ ∃ r, (bts s).drop e = 58 :: r := by
  rcases h.2.2.2.2 with rfl | ⟨hl, h58⟩
  · exact .inl (drop_end s)
  · refine .inr ⟨(bts s).drop (e + 1), ?_⟩
    rw [drop_at hl]
    have : s[e] = (58 : UInt8) := UInt8.toNat.inj h58
    rw [this]
/-- what the piece says -/
theorem RefAt.step {s : ByteArray} {R : Option (Bool × Nat)} {x e : Nat} {p : List UInt8} {G : List Nat} {gap : Option Nat} (h : RefAt s R x G gap) (hx : x < s.size) (hp : PieceAt s x e p) :
    ((46 : UInt8) ∈ p → R = match refFour none [] ((bts s).drop x) with | none => none | some t => fin (G ++ grp t) gap)
    ∧ ((46 : UInt8) ∉ p → hex16 p = none → R = none)
    ∧ (∀ g, (46 : UInt8) ∉ p → hex16 p = some g → (8 ≤ G.length ∧ R = none) ∨ (G.length < 8 ∧ g < 65536 ∧
        ((e = s.size ∧ fin (G ++ [g]) gap = R) ∨ (e < s.size ∧ ((e + 1 = s.size ∧ R = none)
          ∨ (∃ h1 : e + 1 < s.size, (s[e + 1]'h1).toNat = 58 ∧ ((gap.isSome = true ∧ R = none) ∨ (gap = none ∧ ((e + 2 = s.size ∧ fin (G ++ [g]) (some (G.length + 1)) = R) ∨ (e + 2 < s.size ∧ RefAt s R (e + 2) (G ++ [g]) (some (G.length + 1)))))))
          ∨ (∃ h1 : e + 1 < s.size, (s[e + 1]'h1).toNat ≠ 58 ∧ RefAt s R (e + 1) (G ++ [g]) gap)))))) := by
  obtain ⟨_, hG, hj, h8, ⟨_, hR⟩ | ⟨hR, _⟩⟩ := h
  · have ht := hp.tail
    have h3 := hp.2.2.1
    have h58 := hp.2.2.2.1
    refine ⟨fun h46 => ?_, fun h46 hh => ?_, fun g h46 hg => ?_⟩
    · rw [← hR]
      conv => lhs; rw [h3, refT_dot h58 h46 ht, ← h3]
      cases refFour none [] ((bts s).drop x) <;> rfl
    · rw [← hR, h3]; exact refT_bad h58 h46 hh ht
    · by_cases hfull : 8 ≤ G.length
      · exact .inl ⟨hfull, by rw [← hR, h3]; exact refT_full h58 h46 hg hfull ht⟩
      have hgl : g < 65536 := by
        unfold hex16 at hg
        split at hg
        · cases hg
        · rename_i hc
          have hlt := hexM_lt hg
          have : 16 ^ p.length ≤ 16 ^ 4 := Nat.pow_le_pow_right (by omega) (by omega)
          omega
      have hGg : ∀ y ∈ G ++ [g], y < 65536 := by
        intro y hy
        rcases List.mem_append.1 hy with k | k
        · exact hG y k
        · simp at k; omega
      have hGl : (G ++ [g]).length = G.length + 1 := by simp
      refine .inr ⟨by omega, hgl, ?_⟩
      rcases hp.2.2.2.2 with he | ⟨he, hc⟩
      · refine .inl ⟨he, ?_⟩
        rw [← hR, h3, he, drop_end]
        exact (refT_last h58 h46 hg hfull).symm
      · refine .inr ⟨he, ?_⟩
        have hc' : s[e] = (58 : UInt8) := UInt8.toNat.inj hc
        rw [drop_at he, hc'] at h3
        rcases Nat.lt_or_ge (e + 1) s.size with he1 | he1
        · by_cases h2 : (s[e + 1]'he1).toNat = 58
          · have h2' : s[e + 1] = (58 : UInt8) := UInt8.toNat.inj h2
            rw [drop_at he1, h2'] at h3
            refine .inr (.inl ⟨he1, h2, ?_⟩)
            cases gap with
            | some j => exact .inl ⟨rfl, by rw [← hR, h3]; exact refT_twice h58 h46 hg hfull rfl⟩
            | none =>
              refine .inr ⟨rfl, ?_⟩
              rcases Nat.lt_or_ge (e + 1 + 1) s.size with he2 | he2
              · refine .inr ⟨he2, by omega, hGg, fun j h => by cases h; omega, by omega, .inl ⟨he2, ?_⟩⟩
                rw [← hR, h3]
                refine (refT_gap h58 h46 hg hfull ?_).symm
                rw [drop_at he2]
                simp
              · have hz : e + 1 + 1 = s.size := by omega
                refine .inl ⟨hz, ?_⟩
                rw [← hR, h3, hz, drop_end]
                exact (refT_end h58 h46 hg hfull).symm
          · refine .inr (.inr ⟨he1, h2, by omega, hGg, fun j h => by have := hj j h; omega, by omega, .inl ⟨he1, ?_⟩⟩)
            rw [← hR, h3, drop_at he1]
            exact (refT_next h58 h46 hg hfull (fun k => h2 (by rw [k]; rfl))).symm
        · have hz : e + 1 = s.size := by omega
          refine .inl ⟨hz, ?_⟩
          rw [← hR, h3, hz, drop_end]
          exact refT_trail h58 h46 hg hfull
  · omega
theorem hexM_app : ∀ (a b : List UInt8) (n : Nat), hexM n (a ++ b) = match hexM n a with | none => none | some m => hexM m b
  | [], b, n => rfl
  | c :: a, b, n => by
    simp only [List.cons_append, hexM]
    cases hexV c with
    | none => rfl
    | some d => exact hexM_app a b (16 * n + d)
theorem hexM_stop {p : List UInt8} {k : Nat} (h : hexM 0 (p.take k) = none) : hex16 p = none := by
  unfold hex16
  split
  · rfl
  · rw [← List.take_append_drop k p, hexM_app, h]
theorem hexM_room {p : List UInt8} {k m : Nat} (h : hexM 0 (p.take k) = some m) (hk : k ≤ 4) : m < 16 ^ k := by
  have := hexM_lt h
  have h2 : 16 ^ (p.take k).length ≤ 16 ^ k := Nat.pow_le_pow_right (by omega) (by rw [List.length_take]; exact Nat.min_le_left _ _)
  omega
theorem hex16_short {p : List UInt8} (h : p.length = 0 ∨ 4 < p.length) : hex16 p = none := by
  unfold hex16
  rw [if_pos]
  rcases h with h | h
  · exact .inl (List.eq_nil_of_length_eq_zero h)
  · exact .inr h
theorem hex16_is {p : List UInt8} {m : Nat} (h0 : p.length ≠ 0) (h4 : ¬ 4 < p.length) (h : hexM 0 p = some m) : hex16 p = some m := by
  unfold hex16
  rw [if_neg, h]
  rintro (rfl | k)
  · exact h0 rfl
  · exact h4 k
theorem bts_from {s : ByteArray} {x : Nat} : bts (s.extract x s.size) = (bts s).drop x := by
  unfold bts
  rw [ByteArray.data_extract, Array.toList_extract, List.extract_eq_take_drop]
  exact List.take_of_length_le (by rw [List.length_drop]; exact Nat.le_refl _)
theorem allB_len (B z : List Nat) (gap : Option Nat) (i : Nat) : (allB B z gap i).length ≤ B.length + z.length := by
  unfold allB
  split
  · rw [List.length_take]; omega
  · split
    · rw [List.length_append, List.length_append, List.length_drop, List.length_take, List.length_take]; omega
    · rw [List.length_take]; omega
/-- the state ahead of the first round -/
theorem RefAt.start {s : ByteArray} {R : Option (Bool × Nat)} (h : refA (bts s) = R) (h58 : (58 : UInt8) ∈ bts s) :
    (∃ (h2 : 2 ≤ s.size), (s[0]'(by omega)).toNat = 58 ∧ (s[1]'(by omega)).toNat = 58 ∧ RefAt s R 2 [] (some 0)) ∨
    (RefAt s R 0 [] none ∧ (s.size < 2 ∨ ∃ (h2 : 2 ≤ s.size), (s[0]'(by omega)).toNat ≠ 58 ∨ ((s[0]'(by omega)).toNat = 58 ∧ (s[1]'(by omega)).toNat ≠ 58))) := by
  have h0 : 0 < s.size := by
    rw [← bts_len]
    exact List.length_pos_of_mem h58
  have hd0 : bts s = s[0]'h0 :: (bts s).drop 1 := by rw [← drop_at h0]; rfl
  unfold refA at h
  rcases Nat.lt_or_ge s.size 2 with hl | hl
  · have hz : s.size = 1 := by omega
    have hd1 : (bts s).drop 1 = [] := by rw [← hz]; exact drop_end s
    refine .inr ⟨⟨by omega, by simp, by simp, by simp, .inl ⟨h0, ?_⟩⟩, .inl hl⟩
    rw [if_neg (by rw [hd0, hd1]; simp [List.isPrefixOf])] at h
    exact h
  · have h1 : 1 < s.size := by omega
    have hd1 := drop_at h1
    rw [hd1] at hd0
    by_cases e0 : (s[0]'h0).toNat = 58
    · by_cases e1 : (s[1]'h1).toNat = 58
      · have e0' : s[0] = (58 : UInt8) := UInt8.toNat.inj e0
        have e1' : s[1] = (58 : UInt8) := UInt8.toNat.inj e1
        rw [if_pos (by rw [hd0, e0', e1']; rfl)] at h
        refine .inl ⟨hl, e0, e1, by omega, by simp, by simp, by simp, ?_⟩
        by_cases hz : s.size = 2
        · rw [if_pos (by rw [← hz]; exact drop_end s)] at h
          exact .inr ⟨hz.symm, h⟩
        · have h2 : 2 < s.size := by omega
          rw [if_neg (by rw [drop_at h2]; simp)] at h
          exact .inl ⟨h2, h⟩
      · rw [if_neg] at h
        · exact .inr ⟨⟨by omega, by simp, by simp, by simp, .inl ⟨h0, h⟩⟩, .inr ⟨hl, .inr ⟨e0, e1⟩⟩⟩
        · rw [hd0]
          simp only [List.isPrefixOf, Bool.and_true, Bool.and_eq_true, beq_iff_eq, not_and]
          intro _ k
          exact e1 (by rw [← k]; rfl)
    · rw [if_neg] at h
      · exact .inr ⟨⟨by omega, by simp, by simp, by simp, .inl ⟨h0, h⟩⟩, .inr ⟨hl, .inl e0⟩⟩
      · rw [hd0]
        simp only [List.isPrefixOf, Bool.and_true, Bool.and_eq_true, beq_iff_eq, not_and]
        intro k
        exact absurd (by rw [← k]; rfl) e0
end Go.Proofs.YtgdgklibilddgaaGreatDoor

namespace Go.Proofs.YtgdgklibilddgaaGreatDoor
open Go.Lib

section
variable {P : Program}
theorem run_append_room_zeros (w : World) (t tn ty e : TypeId) (i : TypeInfo) (z : Value) (kq kn : IntKind) (ht : P.underlying t = some (.slice e)) (htn : P.underlying tn = some (.int kn)) (hi : P.info? e = some i) (hz : i.zero = some z)
    (g sLen sCap : Nat) (cur : Array Value) (hg : w.heap[g]? = some (.cells cur e (0, 0)))
    (k : Nat) (h0 : 0 < k) (hs : 0 < i.size) (h63 : (k : Int) ≤ 9223372036854775807) (h48 : k * i.bytes ≤ 281474976710656) (h1 : ∀ u ∈ (Builtin.zeroCells z.cells k).toList, u.oneCell' = true)
    (hroom : sLen + k ≤ sCap) (hfit : sLen * i.size + (Builtin.zeroCells z.cells k).toList.length ≤ cur.size) :
    (Builtin.append_ #[t, tn] ty #[.slice (some ⟨g, 0, none⟩) sLen sCap, .int kq k]).run P w =
      .ok (.slice (some ⟨g, 0, none⟩) (sLen + k) sCap) (w.setRow g (cur.toList.take (sLen * i.size) ++ (Builtin.zeroCells z.cells k).toList ++ cur.toList.drop (sLen * i.size + (Builtin.zeroCells z.cells k).toList.length)).toArray) := by
  have hst := run_storeCells_at P g (sLen * i.size) e (Builtin.zeroCells z.cells k).toList 0 cur w hg (by simpa using hfit) h1
  simp only [Nat.add_zero] at hst
  have hw : IntKind.i64.wrap (k : Int) = k := by rw [IntKind.wrap_i64]; omega
  have h48i : ¬ (281474976710656 < (k : Int) * (i.bytes : Int)) := by
    rw [← Int.natCast_mul]
    omega
  have hneg : ¬ ((k : Int) < 0) := by omega
  have hk : k ≠ 0 := by omega
  have hns : ¬ (k * i.size = 0) := Nat.mul_ne_zero hk (by omega)
  simp [Builtin.append_, run_underlying ht, run_underlying htn, sizeOf, typeInfo, zeroValue, hi, hz, asInt, asIntOf, hw, hneg, hns, h48i, hroom, Addr.add_lit, hst]

theorem run_append_own_zeros (w : World) (base : Nat) (t tn ty e : TypeId) (i : TypeInfo) (z : Value) (bytes : Nat) (kq kn : IntKind) (ht : P.underlying t = some (.slice e)) (htn : P.underlying tn = some (.int kn)) (hi : P.info? e = some i) (hz : i.zero = some z)
    (hsize : i.size = 1) (hby : i.bytes = bytes) (hzs : z.cells.size = 1)
    (v : Value) (n : Nat) (xs : List Value) (hown : w.ownsRow base e 1 v n xs)
    (k : Nat) (h0 : 0 < k) (news : List Value) (hnews : (Builtin.zeroCells z.cells k).toList = news) (h1 : ∀ u ∈ news, u.oneCell' = true)
    (h63 : n + k ≤ maxLen) (hbytes : (n + k) * bytes ≤ 140737488355328) (hbase : base ≤ w.heap.size) :
    ∃ v' w', (Builtin.append_ #[t, tn] ty #[v, .int kq k]).run P w = .ok v' w' ∧ w'.ownsRow base e 1 v' (n + k) (xs ++ news) ∧ w.grownBy w' v.ownBlock := by
  subst hby
  have hl : news.length = k := by rw [← hnews, Array.length_toList, size_zeroCells, hzs, Nat.mul_one]
  have hna : news.toArray = Builtin.zeroCells z.cells k := by rw [← hnews]
  have hsmall : n + k ≤ 9223372036854775807 := by simp only [maxLen] at h63; omega
  have hkb : k * i.bytes ≤ 140737488355328 := Nat.le_trans (Nat.mul_le_mul_right _ (by omega)) hbytes
  have hxl : xs.length = n := by rw [hown.1, Nat.mul_one]
  have hlen : (xs ++ news).length = n + k := by rw [List.length_append, hxl, hl]
  have grown : ∀ (old : Nat), old < n + k → ∀ (row : Option Nat),
      (w.drew.alloc (.cells (xs.toArray ++ Builtin.zeroCells z.cells k ++ Builtin.zeroCells z.cells (grownCap w (n + k) old e - (n + k))) e)).ownsRow base e 1
        (.slice (some ⟨w.heap.size, 0, none⟩) (n + k) (grownCap w (n + k) old e)) (n + k) (xs ++ news) ∧
      w.grownBy (w.drew.alloc (.cells (xs.toArray ++ Builtin.zeroCells z.cells k ++ Builtin.zeroCells z.cells (grownCap w (n + k) old e - (n + k))) e)) row := by
    intro old ho row
    have hge := grownCap_ge w (n + k) old e
    have hcm : grownCap w (n + k) old e ≤ maxLen := grownCap_le_maxLen w (n + k) old e h63
    rw [← hna]
    refine ⟨⟨by rw [hlen, Nat.mul_one], .inr ⟨w.heap.size, _, _, rfl, hbase, heap_alloc_new w.drew _, hge, hcm, ?_, ?_⟩⟩, ⟨rfl, rfl, rfl, by simp, fun j hj _ => _root_.Go.heap_alloc_old w.drew _ hj⟩⟩
    · simp only [Array.size_append, List.size_toArray, size_zeroCells, hzs, hxl, hl]
      omega
    · simp only [Array.toList_append, Nat.mul_one]
      rw [← hlen]
      exact List.take_left
  rcases hown.2 with ⟨rfl, rfl⟩ | ⟨g, cap, cur, rfl, hbg, hg, hnc, hcm, hcs, htake⟩
  · have hx : xs = [] := List.eq_nil_of_length_eq_zero hxl
    subst hx
    have hr := run_append_nil_zeros (P := P) (ty := ty) w t tn e i z kq kn ht htn hi hz k h0 (by omega) (by omega) (by omega)
    have hgr := grown 0 (by omega) (Value.ownBlock (.slice none 0 0))
    simp only [Nat.zero_add, List.nil_append, Array.empty_append] at hgr ⊢
    exact ⟨_, _, hr, hgr.1, hgr.2⟩
  · by_cases hroom : n + k ≤ cap
    · have hfit : n * i.size + (Builtin.zeroCells z.cells k).toList.length ≤ cur.size := by rw [hnews, hl, hcs, hsize]; omega
      have hr := run_append_room_zeros (P := P) (ty := ty) w t tn e i z kq kn ht htn hi hz g n cap cur hg k h0 (by omega) (by omega) (by omega) (by rw [hnews]; exact h1) hroom hfit
      rw [hnews] at hr
      refine ⟨_, _, hr, ⟨by rw [hlen, Nat.mul_one], .inr ⟨g, cap, _, rfl, hbg, setRow_heap w g cur _ e _ hg, hroom, hcm, ?_, ?_⟩⟩, ⟨rfl, rfl, rfl, by simp, fun j _ hj => setRow_other w g j _ (fun e => hj (by simp [Value.ownBlock, e]))⟩⟩
      · rw [hsize]
        simp only [List.size_toArray, List.length_append, List.length_take, List.length_drop, Array.length_toList]
        omega
      · rw [hsize, htake, Nat.mul_one, ← hlen]
        exact List.take_left
    · have holds : ∀ j u, xs[j]? = some u → w.cell? ((⟨g, 0, none⟩ : Addr).add j) = some u := hown.cells (g := g) rfl
      have hf := run_firstCells_some (P := P) w.drew i.size n ⟨g, 0, none⟩ n cap xs (by rw [hxl, hsize, Nat.mul_one]) (by simpa using holds)
      have hr := run_append_grow_zeros (P := P) (ty := ty) w t tn e i z kq kn ht htn hi hz (some ⟨g, 0, none⟩) n cap xs hf k h0 (by omega) (by omega) (by omega) (by omega) (growslice_fits (by omega) hbytes)
      have hgr := grown cap (by omega) (Value.ownBlock (.slice (some ⟨g, 0, none⟩) n cap))
      exact ⟨_, _, hr, hgr.1, hgr.2⟩

theorem wpList_append_zeros (w : World) {ops : Array Oper} {rest : List Oper} {o : Oper} {a : Act} {Q : Exit → Act → World → Prop} (hgd : o.guard = none) (s x : Operand) (t tn : TypeId)
    (ho : o.op = .call { callee := .builtin .append, args := #[s, x], argTypes := #[t, tn] })
    (base : Nat) (e : TypeId) (i : TypeInfo) (z : Value) (bytes : Nat) (kq kn : IntKind) (ht : P.underlying t = some (.slice e)) (htn : P.underlying tn = some (.int kn)) (hi : P.info? e = some i) (hz : i.zero = some z)
    (hsize : i.size = 1) (hby : i.bytes = bytes) (hzs : z.cells.size = 1)
    (v : Value) (n : Nat) (xs : List Value) (hs : a.eval s = v) (hown : w.ownsRow base e 1 v n xs)
    (k : Nat) (h0 : 0 < k) (hx : a.eval x = .int kq k) (news : List Value) (hnews : (Builtin.zeroCells z.cells k).toList = news) (h1 : ∀ u ∈ news, u.oneCell' = true)
    (h63 : n + k ≤ maxLen) (hbytes : (n + k) * bytes ≤ 140737488355328) (hbase : base ≤ w.heap.size)
    (h : ∀ v' w', w'.ownsRow base e 1 v' (n + k) (xs ++ news) → w.grownBy w' v.ownBlock → wpList P ops Q rest (a.put o.dst v') w') : wpList P ops Q (o :: rest) a w := by
  obtain ⟨v', w', hr, h2, h3⟩ := run_append_own_zeros (P := P) (ty := o.type) w base t tn e i z bytes kq kn ht htn hi hz hsize hby hzs v n xs hown k h0 news hnews h1 h63 hbytes hbase
  exact wpList_append_run w hgd s x t tn ho v (.int kq k) hs hx v' w' hr (h v' w' h2 h3)
end
theorem zero_bytes (K : Nat) : (Builtin.zeroCells (Value.int .u8 0).cells K).toList = bytesV (ints (List.replicate K 0)) := by
  apply List.ext_getElem?
  intro j
  by_cases h : j < K
  · simp [Builtin.zeroCells, Value.cells, h, Nat.mod_one, bytesV, ints]
  · simp [Builtin.zeroCells, Value.cells, h, bytesV, ints]
end Go.Proofs.YtgdgklibilddgaaGreatDoor

namespace Go.Proofs.YtgdgklibilddgaaGreatDoor
open Go.RowKit

theorem below_own0 {w wr w' : World} {v : Value} {base n : Nat} {e : TypeId} {xs : List Value} (h : Below w.heap.size w wr) (hown : wr.ownsRow base e 1 v n xs) (hb : w.heap.size ≤ base) (hg : wr.grownBy w' v.ownBlock) : Below w.heap.size w w' :=
  h.grown hg (by have := h.size; omega) fun k hk => Nat.le_trans hb ((hown.lt k hk).1)
theorem add_zero' (g j : Nat) : (⟨g, 0, none⟩ : Addr).add j = ⟨g, j, none⟩ := by unfold Addr.add; split <;> simp_all
theorem four_len {l : List UInt8} {t : List Nat} (h : refFour none [] l = some t) : t.length = 4 ∧ ∀ k ∈ t, k ≤ 255 := by
  rw [refFour_four] at h
  unfold four at h
  split at h
  · rename_i h4
    obtain ⟨q1, q2⟩ := mapM8_lt h
    exact ⟨by omega, q2⟩
  · cases h

set_option maxRecDepth 100000 in
set_option maxHeartbeats 3200000 in
theorem rparse_c (s : ByteArray) (w : World) (hs : s.size ≤ 1000000) :
    Calls Tryz.prog 75 #[.string s] w fun e w' => e = .returned (parseV (parseA (bts s))) ∧ Below w.heap.size w w' := by
  obtain ⟨i0, hi0, hz0, hz1, hz2⟩ := info_parts info_u8
  generalize hPA : parseA (bts s) = P
  have HPA := Lib.hid hPA
  clear hPA
  go_enter Tryz.func75, Tryz.ntmps75
  go_wp2_with fail
  have hR : Blk (w.alloc (Obj.cells #[.bool false, .int .u64 0, .int .u64 0] 26)) (w.heap.size) 26 (AddrC false 0) := (Blk.new' _ _ _ _ (by simp) : Blk (w.alloc (Obj.cells #[.bool false, .int .u64 0, .int .u64 0] 26)) (w.heap.size) 26 (AddrC false 0))
  have hbel : Below w.heap.size w (w.alloc (Obj.cells #[.bool false, .int .u64 0, .int .u64 0] 26)) := bl_
  have hsz : (w.alloc (Obj.cells #[.bool false, .int .u64 0, .int .u64 0] 26)).heap.size = w.heap.size + 1 := by simp
  generalize w.alloc (Obj.cells #[.bool false, .int .u64 0, .int .u64 0] 26) = w1 at *
  go_loopw [4, 5] (fun vc vi wr => ∃ k : Nat, k ≤ s.size ∧ vi = .int .i64 k ∧ vc = .bool (decide ((58 : UInt8) ∈ (bts s).take k)) ∧ wr = w1) (fun _ i _ => s.size - (intOf i).toNat)
  case atStart => exact ⟨0, by omega, rfl, by simp, rfl⟩
  case round =>
    obtain ⟨k, hk, rfl, rfl, rfl⟩ := hrel
    by_cases hl : k < s.size
    · have hkI : (k : Int) < s.size := by omega
      have HS := Lib.hid (has_snoc hl 58)
      have h58 : ((58 : UInt8).toNat : Int) = 58 := rfl
      rw [h58] at HS
      clear h58
      generalize decide ((58 : UInt8) ∈ (bts s).take k) = b at *
      generalize hdd : (s[k]'hl).toNat = d at *
      cases b with
      | true =>
        go_wp2_with fail
        go_roundw
        case rel => exact ⟨k + 1, by omega, by go_num, by rw [HS.out]; rfl, by first | rfl | trivial⟩
        case measure => simp [intOf]; omega
      | false =>
        generalize hbb : ((d : Int) == 58) = b2 at *
        go_wp2_with fail
        go_roundw
        case rel => exact ⟨k + 1, by omega, by go_num, by rw [HS.out]; rfl, by first | rfl | trivial⟩
        case measure => simp [intOf]; omega
    · obtain rfl : k = s.size := by omega
      have hkI : ¬ ((s.size : Nat) : Int) < s.size := by omega
      have ht : (bts s).take s.size = bts s := List.take_of_length_le (by rw [bts_len]; exact Nat.le_refl _)
      rw [ht]
      clear ht
      generalize wr = w1 at *
      by_cases h58 : (58 : UInt8) ∈ bts s
      · have e58 : decide ((58 : UInt8) ∈ bts s) = true := by simp [h58]
        rw [e58]
        have hst0 := RefAt.start ((refA_eq h58).trans HPA.out) h58
        clear e58 HPA h58 hk hl hkI
        go_upto_region 14 with (fail)
        rw [← hsz]
        have hw1 : w.heap.size < w1.heap.size := by omega
        clear hsz
        have hown : (w1.alloc (.cells #[] 5)).ownsRow w1.heap.size 5 1 (.slice (some ⟨w1.heap.size, 0, none⟩) 0 0) 0 [] := own_empty w1 _ _ (Nat.le_refl _)
        have hbx : Below w1.heap.size w1 (w1.alloc (.cells #[] 5)) := bl_
        generalize w1.alloc (.cells #[] 5) = w2 at *
        obtain ⟨dd, hdd⟩ : ∃ dd : Bool, (dd = true ∧ ∃ (h2 : 2 ≤ s.size), (s[0]'(by omega)).toNat = 58 ∧ (s[1]'(by omega)).toNat = 58 ∧ RefAt s P 2 [] (some 0)) ∨ (dd = false ∧ RefAt s P 0 [] none ∧ (s.size < 2 ∨ ∃ (h2 : 2 ≤ s.size), (s[0]'(by omega)).toNat ≠ 58 ∨ ((s[0]'(by omega)).toNat = 58 ∧ (s[1]'(by omega)).toNat ≠ 58))) := by
          rcases hst0 with h | h
          · exact ⟨true, .inl ⟨rfl, h⟩⟩
          · exact ⟨false, .inr ⟨rfl, h⟩⟩
        clear hst0
        go_cut [57] from 999 (fun t wc => t = .bool dd ∧ wc = w2)
        case first =>
          rcases hdd with ⟨rfl, h2, q0, q1, _⟩ | ⟨rfl, _, h2 | ⟨h2, q0 | ⟨q0, q1⟩⟩⟩
          · have g0 : (2 : Int) ≤ s.size := by omega
            have g1 : 0 < s.size := by omega
            have g2 : 1 < s.size := by omega
            have q0' : (((s[0]'g1).toNat : Int) == 58) = true := by rw [q0]; rfl
            have q1' : (((s[1]'g2).toNat : Int) == 58) = true := by rw [q1]; rfl
            clear q0 q1
            go_wp2_with fail
            go_meet
            case rel => exact ⟨rfl, rfl⟩
          · have g0 : ¬ (2 : Int) ≤ s.size := by omega
            go_wp2_with fail
            go_meet
            case rel => exact ⟨rfl, rfl⟩
          · have g0 : (2 : Int) ≤ s.size := by omega
            have g1 : 0 < s.size := by omega
            have g2 : 1 < s.size := by omega
            have q0' : (((s[0]'g1).toNat : Int) == 58) = false := by simp; omega
            clear q0
            go_wp2_with fail
            go_meet
            case rel => exact ⟨rfl, rfl⟩
          · have g0 : (2 : Int) ≤ s.size := by omega
            have g1 : 0 < s.size := by omega
            have g2 : 1 < s.size := by omega
            have q0' : (((s[0]'g1).toNat : Int) == 58) = true := by rw [q0]; rfl
            have q1' : (((s[1]'g2).toNat : Int) == 58) = false := by simp; omega
            clear q0 q1
            go_wp2_with fail
            go_meet
            case rel => exact ⟨rfl, rfl⟩
        case rest =>
          obtain ⟨rfl, rfl⟩ := hcut
          generalize wc = w2 at *
          have hat : ∃ (x : Nat) (gap : Option Nat), ((dd = true ∧ x = 2 ∧ gap = some 0) ∨ (dd = false ∧ x = 0 ∧ gap = none)) ∧ RefAt s P x [] gap := by
            rcases hdd with ⟨h, _, _, _, h2⟩ | ⟨h, h2, _⟩
            · exact ⟨2, some 0, .inl ⟨h, rfl, rfl⟩, h2⟩
            · exact ⟨0, none, .inr ⟨h, rfl, rfl⟩, h2⟩
          clear hdd
          obtain ⟨x0, gap0, hcase, hat⟩ := hat
          go_upto_if 57 with (fail)
          go_cut [9, 10] from 999 (fun vg va wc => vg = .int .i64 (gI gap0) ∧ va = .int .i64 x0 ∧ wc = w2)
          case first =>
            rcases hcase with ⟨rfl, rfl, rfl⟩ | ⟨rfl, rfl, rfl⟩
            · go_wp2_with fail
              go_meet
              case rel => exact ⟨rfl, rfl, rfl⟩
            · go_wp2_with fail
              go_meet
              case rel => exact ⟨rfl, rfl, rfl⟩
          case rest =>
            obtain ⟨rfl, rfl, rfl⟩ := hcut
            clear hcase
            go_upto_block 2 with (fail)
            generalize wc = w2 at *
            go_cut [8, 9] from 999 (fun vo vg wc => ∃ (G : List Nat) (gap : Option Nat), vg = .int .i64 (gI gap) ∧ G.length ≤ 10 ∧ (∀ g ∈ G, g < 65536) ∧ (∀ j, gap = some j → j ≤ G.length) ∧ fin G gap = P ∧ wc.ownsRow w1.heap.size 5 1 vo (2 * G.length) (bytesV (ints (byts G))) ∧ Below w1.heap.size w1 wc)
            case rest =>
              clear hown hbx hat
              obtain ⟨G, gap, rfl, hG10, hGl, hj, hfin, hown, hbx⟩ := hcut
              have hR3 := hR.below hbx hw1
              have hbel3 := bl_trans hbel hbx
              have hwc : w.heap.size < wc.heap.size := Nat.lt_of_lt_of_le hw1 hbx.size
              have HFIN := Lib.hid hfin
              have hBl : (byts G).length = 2 * G.length := byts_len G
              obtain ⟨sa, sc, rfl⟩ := own_slice hown
              by_cases hok : (gap = none ∧ G.length = 8) ∨ (∃ j, gap = some j ∧ G.length ≤ 7)
              · obtain ⟨f1, f2, f3⟩ := fin_bytes hGl hj hok
                have hcase : (gI gap = -1 ∧ 2 * G.length = 16) ∨ (0 ≤ gI gap ∧ 2 * G.length ≤ 14) := by
                  rcases hok with ⟨rfl, h8⟩ | ⟨j, rfl, h7⟩
                  · exact .inl ⟨rfl, by omega⟩
                  · exact .inr ⟨by show (0 : Int) ≤ ((2 * j : Nat) : Int); omega, by omega⟩
                obtain ⟨zn, hzn⟩ : ∃ zn, zn = 16 - 2 * G.length := ⟨_, rfl⟩
                rw [← hzn] at f1 f2 f3
                have HJ := Lib.hid (fun j (h : gap = some j) => show 2 * j ≤ (byts G).length by have := hj j h; omega)
                obtain ⟨z, hz⟩ : ∃ z : List Nat, z = List.replicate zn 0 := ⟨_, rfl⟩
                rw [← hz] at f1 f2 f3
                have hzl : z.length = zn := by rw [hz]; simp
                obtain ⟨E, hE⟩ : ∃ E, E = endB (byts G) z gap := ⟨_, rfl⟩
                rw [← hE] at f1 f2 f3
                have FE1 := Lib.hid f1
                have FE2 := Lib.hid f2
                have FE3 := Lib.hid f3
                have HE := Lib.hid hE
                generalize byts G = B at *
                generalize 2 * G.length = ol at *
                have HZI := Lib.hid (show (16 : Int) - (ol : Int) = (zn : Int) by omega)
                have HZC := Lib.hid (show (Builtin.zeroCells (Value.int .u8 0).cells zn).toList = bytesV (ints z) by rw [hz]; exact zero_bytes zn)
                have HZN := Lib.hid (show 0 ≤ gI gap → 0 < zn by omega)
                have HZ := Lib.hid hzl
                have HB := Lib.hid hBl
                have hzn16 : zn ≤ 16 := by omega
                have hol16 : ol ≤ 16 := by omega
                clear f1 f2 f3 hE hok hj hfin hz hzn hGl hG10 hzl hBl
                go_upto_region 52 with (fail)
                go_cut [188] from 999 (fun t wy => t = .bool false ∧ wy = wc)
                case first =>
                  rcases hcase with ⟨h1, h2⟩ | ⟨h1, h2⟩
                  · have h3 : gI gap < 0 := by omega
                    have h4 : ¬ 0 ≤ gI gap := by omega
                    have h5 : ((ol : Int) == 16) = true := by simp; omega
                    clear h1 h2
                    go_wp2_with fail
                    all_goals first | (exfalso; simp at h5; omega) | (go_meet; case rel => exact ⟨rfl, rfl⟩)
                  · have h3 : ¬ gI gap < 0 := by omega
                    have h4 : ¬ (14 : Int) < (ol : Int) := by omega
                    go_wp2_with fail
                    go_meet
                    case rel => exact ⟨rfl, rfl⟩
                case rest =>
                  obtain ⟨rfl, rfl⟩ := hcut
                  clear hcase
                  generalize wc = wc at *
                  go_wp2_with fail
                  have hown2 : (wc.alloc (.cells #[] 5)).ownsRow wc.heap.size 5 1 (.slice (some ⟨wc.heap.size, 0, none⟩) 0 0) 0 [] := own_empty wc _ _ (Nat.le_refl _)
                  have hb2 : Below wc.heap.size wc (wc.alloc (.cells #[] 5)) := bl_
                  generalize wc.alloc (.cells #[] 5) = wd at *
                  go_loopw [17, 18] (fun va vi wx => ∃ (i : Nat) (al : List Nat), i ≤ ol ∧ vi = .int .i64 i ∧ al = allB B z gap i ∧ wx.ownsRow wc.heap.size 5 1 va al.length (bytesV (ints al)) ∧ Below wc.heap.size wc wx) (fun _ i _ => ol - (intOf i).toNat)
                  case atStart => exact ⟨0, [], by omega, rfl, (allB_zero _ _ _).symm, hown2, hb2⟩
                  case round =>
                    clear hown2 hb2
                    obtain ⟨i, al, hio, rfl, hal, hown2, hb2⟩ := hrel
                    have hall : al.length ≤ 36 := by
                      have := allB_len B z gap i
                      rw [← hal, HB.out, HZ.out] at this
                      omega
                    have hwr := hb2.size
                    by_cases hil : i < ol
                    · have hilI : (i : Int) < ol := by omega
                      have hiB : i < B.length := by rw [HB.out]; exact hil
                      obtain ⟨g, cap, hv, g1, g2, g3, g4, g5⟩ := own_form hown (by omega)
                      cases hv
                      have hxb := List.getElem?_eq_getElem hiB
                      have x0 := (hb2.cell (p := ⟨g, i, none⟩) g2).trans (g4 i (.int .u8 (B[i] : Nat)) (by rw [get_bytes (by simpa [ints] using hiB)]; simp [ints, List.getD_eq_getElem?_getD, List.getElem?_eq_getElem hiB]))
                      have hst := allB_step (z := z) (gap := gap) hxb
                      rw [← hal] at hst
                      generalize B[i] = x at *
                      by_cases hgi : gI gap = (i : Int)
                      · rw [if_pos hgi] at hst
                        have e1 : ((i : Int) == gI gap) = true := by simp [hgi]
                        have HST := Lib.hid hst
                        have hln : (al ++ z ++ [x]).length = al.length + zn + 1 := by simp [HZ.out]; omega
                        have HLN := Lib.hid hln
                        have HBV := Lib.hid (show bytesV (ints al) ++ (bytesV (ints z) ++ [.int .u8 (x : Int)]) = bytesV (ints (al ++ z ++ [x])) by simp [bytesV, ints])
                        have HXB := Lib.hid ((hb2.cell (p := ⟨g, i, none⟩) g2).symm.trans x0)
                        have HGI := Lib.hid hgi
                        have hzn0 : 0 < zn := HZN.out (by omega)
                        clear hst hln hgi hxb hal g4
                        generalize al.length = an at *
                        go_wp2_with (at_builtin; refine wpList_append_zeros _ rfl _ _ 122 3 rfl wc.heap.size 5 i0 (.int .u8 0) 1 .i64 .i64 Tryz.underlying122 Tryz.underlying3 hi0 hz0 hz1 hz2 rfl _ _ _ rfl hown2 zn hzn0 (by first | rfl | exact congrArg (Value.int .i64) HZI.out) (bytesV (ints z)) HZC.out (one_bytes _) (by simp only [maxLen]; omega) (by omega) (by omega) ?_)
                        intro v' wa hown' hgrow
                        have hbel1 := below_own0 hb2 hown2 (Nat.le_refl _) hgrow
                        have x1 := (hbel1.cell (p := ⟨g, i, none⟩) g2).trans HXB.out
                        replace hown2 := hown'
                        have hs1 := hbel1.size
                        clear x0 hgrow
                        go_wp2_with (at_builtin; refine wpList_append_own _ rfl _ _ 122 rfl wc.heap.size 5 i0 (.int .u8 0) 1 1 Tryz.underlying122 hi0 hz0 hz1 hz2 rfl (by decide) _ _ _ rfl (hown2.alloc _) ⟨wa.heap.size, 0, none⟩ 1 1 [.int .u8 (x : Int)] rfl rfl ?z1_1 ?z1_2 ?z1_3 ?z1_4 ?z1_5 ?_)
                        (try case z1_1 => exact cell_list _ _ _)
                        (try case z1_2 => (first | exact one_cell_k _ _ | rfl | (intro u hu; simp at hu; (try rcases hu with rfl | rfl) <;> (try subst hu) <;> rfl)))
                        case z1_3 => (first | (simp only [maxLen]; omega) | omega)
                        (try case z1_4 => omega)
                        (try case z1_5 => (first | omega | (simp; omega)))
                        (try case z1_2 => (first | exact one_cell_k _ _ | rfl | (intro u hu; simp at hu; (try rcases hu with rfl | rfl) <;> (try subst hu) <;> rfl)))
                        intro v' wa hown' hgrow _
                        have hbel1 := below_own hbel1 hown2 (by first | exact Nat.le_refl _ | omega) hgrow
                        go_wp2_with fail
                        go_roundw
                        case rel => exact ⟨i + 1, al ++ z ++ [x], by omega, by go_num, HST.out.symm, by rw [HLN.out, ← HBV.out]; exact hown', hbel1⟩
                        case measure => simp [intOf]; omega
                      · rw [if_neg hgi] at hst
                        have e1 : ((i : Int) == gI gap) = false := by simp; omega
                        have HST := Lib.hid (show allB B z gap (i + 1) = al ++ [x] by rw [hst]; simp)
                        have hln : (al ++ [x]).length = al.length + 1 := by simp
                        have HLN := Lib.hid hln
                        have HBV := Lib.hid (show bytesV (ints al) ++ [.int .u8 (x : Int)] = bytesV (ints (al ++ [x])) by simp [bytesV, ints])
                        clear hst hln hgi hxb hal g4
                        generalize al.length = an at *
                        go_wp2_with (at_builtin; refine wpList_append_own _ rfl _ _ 122 rfl wc.heap.size 5 i0 (.int .u8 0) 1 1 Tryz.underlying122 hi0 hz0 hz1 hz2 rfl (by decide) _ _ _ rfl (hown2.alloc _) ⟨wr.heap.size, 0, none⟩ 1 1 [.int .u8 (x : Int)] rfl rfl ?z2_1 ?z2_2 ?z2_3 ?z2_4 ?z2_5 ?_)
                        (try case z2_1 => exact cell_list _ _ _)
                        (try case z2_2 => (first | exact one_cell_k _ _ | rfl | (intro u hu; simp at hu; (try rcases hu with rfl | rfl) <;> (try subst hu) <;> rfl)))
                        case z2_3 => (first | (simp only [maxLen]; omega) | omega)
                        (try case z2_4 => omega)
                        (try case z2_5 => (first | omega | (simp; omega)))
                        (try case z2_2 => (first | exact one_cell_k _ _ | rfl | (intro u hu; simp at hu; (try rcases hu with rfl | rfl) <;> (try subst hu) <;> rfl)))
                        intro v' wa hown' hgrow _
                        have hbel1 := below_own hb2 hown2 (by first | exact Nat.le_refl _ | omega) hgrow
                        go_wp2_with fail
                        go_roundw
                        case rel => exact ⟨i + 1, al ++ [x], by omega, by go_num, HST.out.symm, by rw [HLN.out, ← HBV.out]; exact hown', hbel1⟩
                        case measure => simp [intOf]; omega
                    · obtain rfl : i = ol := by omega
                      have hend := allB_end (z := z) HJ.out
                      rw [HB.out, ← hal, ← HE.out] at hend
                      have hilI : ¬ (i : Int) < i := by omega
                      by_cases hgi : gI gap = (i : Int)
                      · rw [if_pos hgi] at hend
                        have e1 : (gI gap == (i : Int)) = true := by simp [hgi]
                        have HEN := Lib.hid hend
                        have hl16 : al.length + zn = 16 := by
                          have := congrArg List.length hend
                          rw [List.length_append, HZ.out, FE2.out] at this
                          exact this
                        have hzn0 : 0 < zn := HZN.out (by omega)
                        have HBV := Lib.hid (show bytesV (ints al) ++ bytesV (ints z) = bytesV (ints E) by rw [← hend]; simp [bytesV, ints])
                        clear hend hgi hal
                        generalize al.length = an at *
                        go_wp2_with (at_builtin; refine wpList_append_zeros _ rfl _ _ 122 3 rfl wc.heap.size 5 i0 (.int .u8 0) 1 .i64 .i64 Tryz.underlying122 Tryz.underlying3 hi0 hz0 hz1 hz2 rfl _ _ _ rfl hown2 zn hzn0 (by first | rfl | exact congrArg (Value.int .i64) HZI.out) (bytesV (ints z)) HZC.out (one_bytes _) (by simp only [maxLen]; omega) (by omega) (by omega) ?_)
                        intro v' wa hown' hgrow
                        have hbel1 := below_own0 hb2 hown2 (Nat.le_refl _) hgrow
                        have hfinal : wa.ownsRow wc.heap.size 5 1 v' 16 (bytesV (ints E)) := by rw [← HBV.out]; first | exact hown' | (rw [← hl16]; exact hown')
                        obtain ⟨gf, capf, rfl, q1, q2, q3, q4, q5⟩ := own_form hfinal (by omega)
                        have HO := Lib.hid (rofbytes_c gf 0 16 capf E wa FE2.out FE3.out (by omega) (by omega) (fun j hj => by rw [Nat.zero_add]; exact q4 j _ (by rw [get_bytes (by simpa [ints] using hj)]; simp [ints, List.getD_eq_getElem?_getD, List.getElem?_eq_getElem hj])) q2)
                        have hv16 : ((16 : Nat) == 16) = true := rfl
                        rw [hv16] at HO
                        have hn := HFIN.out.symm.trans FE1.out
                        have HN := Lib.hid hn
                        have hR4 := hR3.below hbel1 hwc
                        have hbel4 := bl_trans hbel3 hbel1
                        clear hn q4 q5 hfinal hv16
                        generalize valB E = V at *
                        go_wp2_with fail
                        with_reducible refine HO.out.mono ?_
                        rintro e w5 ⟨rfl, hb5⟩
                        have hR5 := hR4.after hb5
                        have hbel5 := bl_trans hbel4 hb5
                        obtain ⟨c0, c1, c2, _⟩ := blk_adr hR5
                        have cz0 := hR5.frozen 0
                        have cz1 := hR5.frozen 1
                        have cz2 := hR5.frozen 2
                        rw [AddrV_eq]
                        unfold AddrC
                        go_wp2_with fail
                        obtain ⟨r0, r1, r2, _⟩ := blk_adr (v := true) (n := V) (((hR5.put 0 (.bool true)).put 1 (.int .u64 (hi V))).put 2 (.int .u64 (lo V)))
                        refine bodyPost_ret (v := .tuple #[.agg #[.bool true, .int .u64 (hi V), .int .u64 (lo V)], .int .i64 0]) (by simp [results, Tryz.results75, go_sem, r0, r1, r2]) rfl ⟨by rw [HN.out]; rfl, bl_⟩
                      · rw [if_neg hgi, List.append_nil] at hend
                        have e1 : (gI gap == (i : Int)) = false := by simp; omega
                        subst hend
                        clear hgi hal
                        have hfinal := hown2
                        rw [FE2.out] at hfinal
                        obtain ⟨gf, capf, rfl, q1, q2, q3, q4, q5⟩ := own_form hfinal (by omega)
                        have HO := Lib.hid (rofbytes_c gf 0 16 capf al wr FE2.out FE3.out (by omega) (by omega) (fun j hj => by rw [Nat.zero_add]; exact q4 j _ (by rw [get_bytes (by simpa [ints] using hj)]; simp [ints, List.getD_eq_getElem?_getD, List.getElem?_eq_getElem hj])) q2)
                        have hv16 : ((16 : Nat) == 16) = true := rfl
                        rw [hv16] at HO
                        have hn := HFIN.out.symm.trans FE1.out
                        have HN := Lib.hid hn
                        have hR4 := hR3.below hb2 hwc
                        have hbel4 := bl_trans hbel3 hb2
                        clear hn q4 q5 hfinal hv16
                        generalize valB al = V at *
                        go_wp2_with fail
                        with_reducible refine HO.out.mono ?_
                        rintro e w5 ⟨rfl, hb5⟩
                        have hR5 := hR4.after hb5
                        have hbel5 := bl_trans hbel4 hb5
                        obtain ⟨c0, c1, c2, _⟩ := blk_adr hR5
                        have cz0 := hR5.frozen 0
                        have cz1 := hR5.frozen 1
                        have cz2 := hR5.frozen 2
                        rw [AddrV_eq]
                        unfold AddrC
                        go_wp2_with fail
                        obtain ⟨r0, r1, r2, _⟩ := blk_adr (v := true) (n := V) (((hR5.put 0 (.bool true)).put 1 (.int .u64 (hi V))).put 2 (.int .u64 (lo V)))
                        refine bodyPost_ret (v := .tuple #[.agg #[.bool true, .int .u64 (hi V), .int .u64 (lo V)], .int .i64 0]) (by simp [results, Tryz.results75, go_sem, r0, r1, r2]) rfl ⟨by rw [HN.out]; rfl, bl_⟩
              · have hn : P = none := hfin.symm.trans (fin_none hok)
                have HN := Lib.hid hn
                have hcase : (gI gap = -1 ∧ 2 * G.length ≠ 16) ∨ (0 ≤ gI gap ∧ 14 < 2 * G.length) := by
                  cases gap with
                  | none => exact .inl ⟨rfl, fun h => hok (.inl ⟨rfl, by omega⟩)⟩
                  | some j =>
                    refine .inr ⟨by show (0 : Int) ≤ ((2 * j : Nat) : Int); omega, ?_⟩
                    rcases Nat.lt_or_ge 14 (2 * G.length) with h | h
                    · exact h
                    · exact absurd (.inr ⟨j, rfl, by omega⟩) hok
                generalize 2 * G.length = ol at *
                clear hn hok hfin HFIN hj
                rcases hcase with ⟨h1, h2⟩ | ⟨h1, h2⟩
                · have h3 : ((ol : Int) == 16) = false := by simp; omega
                  have h4 : gI gap < 0 := by omega
                  have h5 : ¬ 0 ≤ gI gap := by omega
                  clear h1
                  obtain ⟨c0, c1, c2, _⟩ := blk_adr hR3
                  have cz0 := hR3.frozen 0
                  have cz1 := hR3.frozen 1
                  have cz2 := hR3.frozen 2
                  go_wp2_with fail
                  obtain ⟨r0, r1, r2, _⟩ := blk_adr (v := false) (n := 0) (((hR3.put 0 (.bool false)).put 1 (.int .u64 0)).put 2 (.int .u64 0))
                  refine bodyPost_ret (v := .tuple #[.agg #[.bool false, .int .u64 0, .int .u64 0], .int .i64 4]) (by simp [results, Tryz.results75, go_sem, r0, r1, r2, hi_zero, lo_zero]) rfl ⟨by rw [HN.out]; rfl, bl_⟩
                · have h3 : ¬ gI gap < 0 := by omega
                  have h4 : (14 : Int) < (ol : Int) := by omega
                  obtain ⟨c0, c1, c2, _⟩ := blk_adr hR3
                  have cz0 := hR3.frozen 0
                  have cz1 := hR3.frozen 1
                  have cz2 := hR3.frozen 2
                  go_wp2_with fail
                  obtain ⟨r0, r1, r2, _⟩ := blk_adr (v := false) (n := 0) (((hR3.put 0 (.bool false)).put 1 (.int .u64 0)).put 2 (.int .u64 0))
                  refine bodyPost_ret (v := .tuple #[.agg #[.bool false, .int .u64 0, .int .u64 0], .int .i64 4]) (by simp [results, Tryz.results75, go_sem, r0, r1, r2, hi_zero, lo_zero]) rfl ⟨by rw [HN.out]; rfl, bl_⟩
            case first =>
              go_wp2_with fail
              go_loopw [8, 9, 10] (fun vo vg va wz => ∃ (x : Nat) (G : List Nat) (gap : Option Nat), va = .int .i64 x ∧ vg = .int .i64 (gI gap) ∧ RefAt s P x G gap ∧ wz.ownsRow w1.heap.size 5 1 vo (2 * G.length) (bytesV (ints (byts G))) ∧ Below w1.heap.size w1 wz) (fun _ _ i _ => s.size - (intOf i).toNat)
              case atStart => exact ⟨x0, [], gap0, rfl, rfl, hat, hown, hbx⟩
              case round =>
                clear hown hbx hat
                obtain ⟨x, G, gap, rfl, rfl, hat, hown, hbx⟩ := hrel
                generalize wr = wo at *
                by_cases hx : x < s.size
                · have hxI : (x : Int) < s.size := by omega
                  obtain ⟨e, p, hp⟩ := RefAt.piece (Nat.le_of_lt hx)
                  obtain ⟨hs1, hs2, hs3⟩ := hat.step hx hp
                  have hGb := hat.2.1
                  have hGj := hat.2.2.1
                  have hG8 := hat.2.2.2.1
                  have hpl := hp.1
                  have hpe := hp.2.1
                  have HPC := Lib.hid hp
                  have HS1 := Lib.hid hs1
                  have HS2 := Lib.hid hs2
                  have HS3 := Lib.hid hs3
                  have HGJ := Lib.hid hGj
                  obtain ⟨ol, hol⟩ : ∃ ol, ol = 2 * G.length := ⟨_, rfl⟩
                  rw [← hol] at hown
                  have hol16 : ol ≤ 16 := by omega
                  have HOLN := Lib.hid hol
                  clear hs1 hs2 hs3 hat hp hGj hol
                  go_upto_block 4 with (fail)
                  go_cut [11, 12] from 999 (fun ve vd wy => ve = .int .i64 e ∧ vd = .bool (decide ((46 : UInt8) ∈ p)) ∧ wy = wo)
                  case first =>
                    go_wp2_with fail
                    go_loopw [11, 12] (fun ve vd wy => ∃ y : Nat, x ≤ y ∧ y ≤ e ∧ ve = .int .i64 y ∧ vd = .bool (decide ((46 : UInt8) ∈ p.take (y - x))) ∧ wy = wo) (fun i _ _ => e - (intOf i).toNat)
                    case atStart => exact ⟨x, by omega, by omega, rfl, by simp, rfl⟩
                    case round =>
                      obtain ⟨y, hy1, hy2, rfl, rfl, rfl⟩ := hrel
                      by_cases hye : y < e
                      · obtain ⟨hys, h58', htk⟩ := HPC.out.snoc hy1 hye
                        have hyI : (y : Int) < s.size := by omega
                        have hd46 : decide ((46 : UInt8) ∈ p.take (y + 1 - x)) = (decide ((46 : UInt8) ∈ p.take (y - x)) || ((s[y]'hys).toNat : Int) == 46) := by rw [htk, dec_snoc]; rfl
                        have HD46 := Lib.hid hd46
                        clear hd46 htk
                        generalize decide ((46 : UInt8) ∈ p.take (y - x)) = b at *
                        generalize hdd : (s[y]'hys).toNat = d at *
                        have e58 : ((d : Int) == 58) = false := by simp; omega
                        cases b with
                        | true =>
                          go_wp2_with fail
                          go_roundw
                          case rel => exact ⟨y + 1, by omega, by omega, by go_num, by rw [HD46.out]; rfl, by first | rfl | trivial⟩
                          case measure => simp [intOf]; omega
                        | false =>
                          generalize hbb : ((d : Int) == 46) = b2 at *
                          go_wp2_with fail
                          go_roundw
                          case rel => exact ⟨y + 1, by omega, by omega, by go_num, by rw [HD46.out]; rfl, by first | rfl | trivial⟩
                          case measure => simp [intOf]; omega
                      · obtain rfl : y = e := by omega
                        have htk : p.take (y - x) = p := List.take_of_length_le (by omega)
                        rw [htk]
                        clear htk
                        rcases HPC.out.2.2.2.2 with he | ⟨he, h58'⟩
                        · have hyI : ¬ (y : Int) < s.size := by omega
                          clear he
                          go_wp2_with fail
                          go_meet
                          case rel => exact ⟨rfl, rfl, by first | rfl | trivial⟩
                        · have hyI : (y : Int) < s.size := by omega
                          have e58 : (((s[y]'he).toNat : Int) == 58) = true := by rw [h58']; rfl
                          clear h58'
                          go_wp2_with fail
                          go_meet
                          case rel => exact ⟨rfl, rfl, by first | rfl | trivial⟩
                  case rest =>
                    obtain ⟨rfl, rfl, rfl⟩ := hcut
                    generalize wc = wo at *
                    by_cases h46 : (46 : UInt8) ∈ p
                    · have d46 : decide ((46 : UInt8) ∈ p) = true := by simp [h46]
                      rw [d46]
                      have HR0 := Lib.hid (HS1.out h46)
                      have hxe : bts (s.extract x s.size) = (bts s).drop x := bts_from
                      have HF := Lib.hid (fun w => rfour_c (s.extract x s.size) w (by simp; omega))
                      have ht4 : ∀ t, refFour none [] ((bts s).drop x) = some t → t.length = 4 ∧ ∀ k ∈ t, k ≤ 255 := fun t h => four_len h
                      have HT4 := Lib.hid ht4
                      rw [hxe] at HF
                      clear d46 ht4 hxe HS1 HS2 HS3 h46 HPC
                      generalize refFour none [] ((bts s).drop x) = R4 at *
                      go_wp2_with fail
                      with_reducible refine (HF.out _).mono ?_
                      rintro e' w3 ⟨hF, hb⟩
                      have hbx3 := bl_trans hbx hb
                      have hown3 := own_after hown hb
                      have hR3 := hR.below hbx3 hw1
                      have hbel3 := bl_trans hbel hbx3
                      clear HF
                      rcases hF with ⟨rfl, v, rfl⟩ | ⟨t, v, rfl, rfl, hown4⟩
                      · have hn : P = none := HR0.out
                        have HN := Lib.hid hn
                        clear hn HR0
                        obtain ⟨c0, c1, c2, _⟩ := blk_adr hR3
                        have cz0 := hR3.frozen 0
                        have cz1 := hR3.frozen 1
                        have cz2 := hR3.frozen 2
                        go_wp2_with fail
                        obtain ⟨r0, r1, r2, _⟩ := blk_adr (v := false) (n := 0) (((hR3.put 0 (.bool false)).put 1 (.int .u64 0)).put 2 (.int .u64 0))
                        refine bodyPost_ret (v := .tuple #[.agg #[.bool false, .int .u64 0, .int .u64 0], .int .i64 4]) (by simp [results, Tryz.results75, go_sem, r0, r1, r2, hi_zero, lo_zero]) rfl ⟨by rw [HN.out]; rfl, bl_⟩
                      · obtain ⟨ht4, ht5⟩ := HT4.out t rfl
                        obtain ⟨g, cap, rfl, g1, g2, g3, g4, g5⟩ := own_form hown4 (by omega)
                        have hbl : (bytesV (ints t)).length = 4 * 1 := by simp [bytesV, ints, ht4]
                        have HBL := Lib.hid hbl
                        have hc3 : ∀ j u, (bytesV (ints t))[j]? = some u → w3.cell? ((⟨g, 0, none⟩ : Addr).add j) = some u := fun j u hu => by
                          rw [add_zero']
                          exact g4 j u hu
                        have HC3 := Lib.hid hc3
                        have hn : P = fin (G ++ grp t) gap := HR0.out
                        have HN := Lib.hid hn
                        clear hn HR0 hbl hc3 g4 HT4
                        go_wp2_with (at_builtin; refine wpList_append_own _ rfl _ _ 122 rfl w1.heap.size 5 i0 (.int .u8 0) 1 1 Tryz.underlying122 hi0 hz0 hz1 hz2 rfl (by decide) _ _ _ rfl hown3 ⟨g, 0, none⟩ 4 cap (bytesV (ints t)) rfl HBL.out HC3.out (one_bytes _) (by simp only [maxLen]; omega) (by omega) (by have := hbx3.size; omega) ?_)
                        intro v' wa hown' hgrow _
                        have hbel1 := below_own0 hbx3 hown3 (Nat.le_refl _) hgrow
                        have hgl : (grp t).length = 2 := grp_len ht4
                        have hbg : byts (G ++ grp t) = byts G ++ t := by rw [byts_app, byts_grp ht4 ht5]
                        go_wp2_with fail
                        go_meet
                        case rel => exact ⟨G ++ grp t, gap, rfl, by rw [List.length_append, hgl]; omega, fun y hy => (List.mem_append.1 hy).elim (hGb y) (grp_lt ht5 y), fun j hj => by have := HGJ.out j hj; rw [List.length_append]; omega, HN.out.symm, by
                          rw [hbg, show 2 * (G ++ grp t).length = ol + 4 by rw [List.length_append, hgl, HOLN.out]; omega, show bytesV (ints (byts G ++ t)) = bytesV (ints (byts G)) ++ bytesV (ints t) by simp [bytesV, ints]]
                          exact hown', hbel1⟩
                    · have d46 : decide ((46 : UInt8) ∈ p) = false := by simp [h46]
                      rw [d46]
                      clear d46 HS1
                      have HS2' := Lib.hid (HS2.out h46)
                      have HS3' := Lib.hid (fun g => HS3.out g h46)
                      clear HS2 HS3 h46
                      by_cases hex : e = x
                      · have e1 : ((e : Int) == (x : Int)) = true := by simp; omega
                        have hn := HS2'.out (hex16_short (.inl (by omega)))
                        have HN := Lib.hid hn
                        have hR3 := hR.below hbx hw1
                        have hbel3 := bl_trans hbel hbx
                        clear hn HS2' HS3' HPC
                        obtain ⟨c0, c1, c2, _⟩ := blk_adr hR3
                        have cz0 := hR3.frozen 0
                        have cz1 := hR3.frozen 1
                        have cz2 := hR3.frozen 2
                        go_wp2_with fail
                        obtain ⟨r0, r1, r2, _⟩ := blk_adr (v := false) (n := 0) (((hR3.put 0 (.bool false)).put 1 (.int .u64 0)).put 2 (.int .u64 0))
                        refine bodyPost_ret (v := .tuple #[.agg #[.bool false, .int .u64 0, .int .u64 0], .int .i64 4]) (by simp [results, Tryz.results75, go_sem, r0, r1, r2, hi_zero, lo_zero]) rfl ⟨by rw [HN.out]; rfl, bl_⟩
                      · have e1 : ((e : Int) == (x : Int)) = false := by simp; omega
                        by_cases he4 : 4 < e - x
                        · have e2 : (4 : Int) < (e : Int) - x := by omega
                          have hn := HS2'.out (hex16_short (.inr (by omega)))
                          have HN := Lib.hid hn
                          have hR3 := hR.below hbx hw1
                          have hbel3 := bl_trans hbel hbx
                          clear hn HS2' HS3' HPC
                          obtain ⟨c0, c1, c2, _⟩ := blk_adr hR3
                          have cz0 := hR3.frozen 0
                          have cz1 := hR3.frozen 1
                          have cz2 := hR3.frozen 2
                          go_wp2_with fail
                          obtain ⟨r0, r1, r2, _⟩ := blk_adr (v := false) (n := 0) (((hR3.put 0 (.bool false)).put 1 (.int .u64 0)).put 2 (.int .u64 0))
                          refine bodyPost_ret (v := .tuple #[.agg #[.bool false, .int .u64 0, .int .u64 0], .int .i64 4]) (by simp [results, Tryz.results75, go_sem, r0, r1, r2, hi_zero, lo_zero]) rfl ⟨by rw [HN.out]; rfl, bl_⟩
                        · have e2 : ¬ (4 : Int) < (e : Int) - x := by omega
                          go_wp2_with fail
                          go_loopw [15, 16] (fun vn vk wy => ∃ k m : Nat, x ≤ k ∧ k ≤ e ∧ vk = .int .i64 k ∧ vn = .int .i64 m ∧ hexM 0 (p.take (k - x)) = some m ∧ Below wo.heap.size wo wy) (fun _ i _ => e - (intOf i).toNat)
                          case atStart => exact ⟨x, 0, by omega, by omega, rfl, rfl, by simp [hexM], Below.refl _ _⟩
                          case round =>
                            obtain ⟨k, m, hk1, hk2, rfl, rfl, hm, hby⟩ := hrel
                            have hbx3 := bl_trans hbx hby
                            have hown3 := own_after hown hby
                            have hR3 := hR.below hbx3 hw1
                            have hbel3 := bl_trans hbel hbx3
                            have hmr := hexM_room hm (by omega)
                            have HM := Lib.hid hm
                            by_cases hke : k < e
                            · have hkI : (k : Int) < e := by omega
                              obtain ⟨hks, _, htk⟩ := HPC.out.snoc hk1 hke
                              have hmm : m < 4096 := by
                                have : 16 ^ (k - x) ≤ 16 ^ 3 := Nat.pow_le_pow_right (by omega) (by omega)
                                omega
                              have hsn : hexM 0 (p.take (k + 1 - x)) = (hexV (s[k]'hks)).map (16 * m + ·) := by rw [htk, hexM_snoc, hm]
                              have hkI2 : (k : Int) < s.size := by omega
                              have hd256 := (s[k]'hks).toNat_lt
                              rcases hexV_I (s[k]'hks) with ⟨d, hd1, hd2, hd3⟩ | ⟨hd1, hd2⟩
                              · have HD := Lib.hid (fun w => rdigit_c (s[k]'hks).toNat w (by omega))
                                rw [hd2] at HD
                                rw [hd1] at hsn
                                have hsn2 : hexM 0 (p.take (k + 1 - x)) = some (16 * m + d) := hsn
                                have HSN := Lib.hid hsn2
                                have hdn : ¬ (d : Int) < 0 := by omega
                                clear hsn hsn2 htk hd1 hd2 hm hmr
                                generalize hcc : (s[k]'hks).toNat = c at *
                                go_wp2_with fail
                                with_reducible refine (HD.out _).mono ?_
                                rintro e' w3 ⟨rfl, hb3⟩
                                have hby3 := bl_trans hby hb3
                                go_wp2_with fail
                                with_reducible refine (HD.out _).mono ?_
                                rintro e' w4 ⟨rfl, hb4⟩
                                have hby4 := bl_trans hby3 hb4
                                go_wp2_with fail
                                go_roundw
                                case rel => exact ⟨k + 1, 16 * m + d, by omega, by omega, by go_num, by go_num, HSN.out, hby4⟩
                                case measure => simp [intOf]; omega
                              · have HD := Lib.hid (fun w => rdigit_c (s[k]'hks).toNat w (by omega))
                                rw [hd2] at HD
                                rw [hd1] at hsn
                                have hn := HS2'.out (hexM_stop hsn)
                                have HN := Lib.hid hn
                                clear hsn htk hd1 hd2 hm hmr hn
                                generalize hcc : (s[k]'hks).toNat = c at *
                                go_wp2_with fail
                                with_reducible refine (HD.out _).mono ?_
                                rintro e' w3 ⟨rfl, hb3⟩
                                have hR4 := hR3.after hb3
                                have hbel4 := bl_trans hbel3 hb3
                                obtain ⟨c0, c1, c2, _⟩ := blk_adr hR4
                                have cz0 := hR4.frozen 0
                                have cz1 := hR4.frozen 1
                                have cz2 := hR4.frozen 2
                                go_wp2_with fail
                                obtain ⟨r0, r1, r2, _⟩ := blk_adr (v := false) (n := 0) (((hR4.put 0 (.bool false)).put 1 (.int .u64 0)).put 2 (.int .u64 0))
                                refine bodyPost_ret (v := .tuple #[.agg #[.bool false, .int .u64 0, .int .u64 0], .int .i64 4]) (by simp [results, Tryz.results75, go_sem, r0, r1, r2, hi_zero, lo_zero]) rfl ⟨by rw [HN.out]; rfl, bl_⟩
                            · obtain rfl : k = e := by omega
                              have hkI : ¬ (k : Int) < k := by omega
                              have htk : p.take (k - x) = p := List.take_of_length_le (by omega)
                              rw [htk] at hm
                              have hh := hex16_is (by omega) (by omega) hm
                              have h3 := HS3'.out m hh
                              have HH3 := Lib.hid h3
                              have hm6 : m < 65536 := by
                                have : 16 ^ (k - x) ≤ 16 ^ 4 := Nat.pow_le_pow_right (by omega) (by omega)
                                omega
                              have hu1 : IntKind.u8.wrap ((m : Int) / 256) = (m : Int) / 256 := by show (m : Int) / 256 % 256 = _; omega
                              have hu2 : IntKind.u8.wrap ((m : Int) % 256) = (m : Int) % 256 := by show (m : Int) % 256 % 256 = _; omega
                              have HBV := Lib.hid (show bytesV (ints (byts G)) ++ [.int .u8 ((m : Int) / 256), .int .u8 ((m : Int) % 256)] = bytesV (ints (byts (G ++ [m]))) by
                                rw [byts_app]; simp [bytesV, ints, byts])
                              have HLN := Lib.hid (show ol + 2 = 2 * (G ++ [m]).length by rw [HOLN.out]; simp; omega)
                              have HGM := Lib.hid (show ∀ y ∈ G ++ [m], y < 65536 from fun y hy => (List.mem_append.1 hy).elim (hGb y) (fun h => by simp at h; omega))
                              clear hh h3 htk hm hmr HM HS2' HS3' HPC
                              generalize wr = wz at *
                              have hwz := hbx3.size
                              go_wp2_with (at_builtin; refine wpList_append_own _ rfl _ _ 122 rfl w1.heap.size 5 i0 (.int .u8 0) 1 1 Tryz.underlying122 hi0 hz0 hz1 hz2 rfl (by decide) _ _ _ rfl (hown3.alloc _) ⟨wz.heap.size, 0, none⟩ 2 2 [.int .u8 ((m : Int) / 256), .int .u8 ((m : Int) % 256)] rfl rfl ?z3_1 ?z3_2 ?z3_3 ?z3_4 ?z3_5 ?_)
                              (try case z3_1 => exact cell_list _ _ _)
                              (try case z3_2 => (first | exact one_cell_k _ _ | rfl | (intro u hu; simp at hu; (try rcases hu with rfl | rfl) <;> (try subst hu) <;> rfl)))
                              case z3_3 => (first | (simp only [maxLen]; omega) | omega)
                              (try case z3_4 => omega)
                              (try case z3_5 => (first | omega | (simp; omega)))
                              (try case z3_2 => (first | exact one_cell_k _ _ | rfl | (intro u hu; simp at hu; (try rcases hu with rfl | rfl) <;> (try subst hu) <;> rfl)))
                              (try case z3_2 => exact ⟨rfl, rfl⟩)
                              intro v' wa hown' hgrow _
                              have hbel1 := below_own hbx3 hown3 (by first | exact Nat.le_refl _ | omega) hgrow
                              have hR4 := hR.below hbel1 hw1
                              have hbel4 := bl_trans hbel hbel1
                              have HOW := Lib.hid hown'
                              obtain ⟨sa, sc, rfl⟩ := own_slice hown'
                              have h3 := HH3.out
                              rcases h3 with ⟨hfull, hn⟩ | ⟨hfull, _, h3⟩
                              · have HN := Lib.hid hn
                                have hf16 : (16 : Int) < (ol : Int) + 2 := by have := HOLN.out; omega
                                have hf16' : (16 : Int) < ((ol + 2 : Nat) : Int) := by omega
                                clear HH3 hn hfull hown'
                                obtain ⟨c0, c1, c2, _⟩ := blk_adr hR4
                                have cz0 := hR4.frozen 0
                                have cz1 := hR4.frozen 1
                                have cz2 := hR4.frozen 2
                                go_wp2_with fail
                                obtain ⟨r0, r1, r2, _⟩ := blk_adr (v := false) (n := 0) (((hR4.put 0 (.bool false)).put 1 (.int .u64 0)).put 2 (.int .u64 0))
                                refine bodyPost_ret (v := .tuple #[.agg #[.bool false, .int .u64 0, .int .u64 0], .int .i64 4]) (by simp [results, Tryz.results75, go_sem, r0, r1, r2, hi_zero, lo_zero]) rfl ⟨by rw [HN.out]; rfl, bl_⟩
                              · have hf16 : ¬ (16 : Int) < (ol : Int) + 2 := by have := HOLN.out; omega
                                have hf16' : ¬ (16 : Int) < ((ol + 2 : Nat) : Int) := by omega
                                clear HH3 hfull hown'
                                rcases h3 with ⟨hes, hfin⟩ | ⟨hes, h3⟩
                                · have HFN := Lib.hid hfin
                                  have e5 : ((k : Int) == (s.size : Int)) = true := by simp; omega
                                  clear hfin hes
                                  go_wp2_with fail
                                  go_meet
                                  case rel => exact ⟨G ++ [m], gap, rfl, by simp; omega, HGM.out, fun j hj => by have := HGJ.out j hj; simp; omega, HFN.out, by rw [← HLN.out, ← HBV.out]; exact HOW.out, hbel1⟩
                                · have e5 : ((k : Int) == (s.size : Int)) = false := by simp; omega
                                  have HH4 := Lib.hid h3
                                  clear h3
                                  obtain ⟨k1, hk1'⟩ : ∃ k1 : Nat, k1 = k + 1 := ⟨_, rfl⟩
                                  have hkk : (k : Int) + 1 = (k1 : Int) := by omega
                                  rw [← hk1'] at HH4
                                  have HKK := Lib.hid hkk
                                  have HK1 := Lib.hid hk1'
                                  have hk1s : k1 ≤ s.size := by omega
                                  clear hkk hk1'
                                  go_upto_region 44 with (fail)
                                  rw [HKK.out]
                                  have h3 := HH4.out
                                  rcases h3 with ⟨hz, hn⟩ | ⟨h1, h2, h3⟩ | ⟨h1, h2, h3⟩
                                  · have HN := Lib.hid hn
                                    have g1 : ¬ (k1 : Int) < s.size := by omega
                                    have g2 : ((k1 : Int) == (s.size : Int)) = true := by simp; omega
                                    clear HH4 hn hz
                                    obtain ⟨c0, c1, c2, _⟩ := blk_adr hR4
                                    have cz0 := hR4.frozen 0
                                    have cz1 := hR4.frozen 1
                                    have cz2 := hR4.frozen 2
                                    go_wp2_with fail
                                    obtain ⟨r0, r1, r2, _⟩ := blk_adr (v := false) (n := 0) (((hR4.put 0 (.bool false)).put 1 (.int .u64 0)).put 2 (.int .u64 0))
                                    refine bodyPost_ret (v := .tuple #[.agg #[.bool false, .int .u64 0, .int .u64 0], .int .i64 4]) (by simp [results, Tryz.results75, go_sem, r0, r1, r2, hi_zero, lo_zero]) rfl ⟨by rw [HN.out]; rfl, bl_⟩
                                  · have g1 : (k1 : Int) < s.size := by omega
                                    have g2 : (((s[k1]'h1).toNat : Int) == 58) = true := by rw [h2]; rfl
                                    clear h2 HH4
                                    rcases h3 with ⟨hj, hn⟩ | ⟨rfl, h3⟩
                                    · have HN := Lib.hid hn
                                      have g3 : 0 ≤ gI gap := by
                                        cases gap with
                                        | none => cases hj
                                        | some j => show (0 : Int) ≤ ((2 * j : Nat) : Int); omega
                                      clear hn hj
                                      obtain ⟨c0, c1, c2, _⟩ := blk_adr hR4
                                      have cz0 := hR4.frozen 0
                                      have cz1 := hR4.frozen 1
                                      have cz2 := hR4.frozen 2
                                      go_wp2_with fail
                                      obtain ⟨r0, r1, r2, _⟩ := blk_adr (v := false) (n := 0) (((hR4.put 0 (.bool false)).put 1 (.int .u64 0)).put 2 (.int .u64 0))
                                      refine bodyPost_ret (v := .tuple #[.agg #[.bool false, .int .u64 0, .int .u64 0], .int .i64 4]) (by simp [results, Tryz.results75, go_sem, r0, r1, r2, hi_zero, lo_zero]) rfl ⟨by rw [HN.out]; rfl, bl_⟩
                                    · have hgi : gI none = -1 := rfl
                                      rw [hgi]
                                      clear hgi
                                      have HGI := Lib.hid (show gI (some (G.length + 1)) = (ol : Int) + 2 by have := HOLN.out; show ((2 * (G.length + 1) : Nat) : Int) = _; omega)
                                      have HG2 := Lib.hid hG8
                                      rcases h3 with ⟨hz, hfin⟩ | ⟨hz, hnx⟩
                                      · have HFN := Lib.hid hfin
                                        have HHZ := Lib.hid hz
                                        have g3 : ((k1 : Int) + 1 == (s.size : Int)) = true := by have := HK1.out; simp; omega
                                        clear hfin hz
                                        go_wp2_with fail
                                        go_meet
                                        case rel => exact ⟨G ++ [m], some (G.length + 1), by rw [HGI.out] <;> go_num, by simp; omega, HGM.out, fun j hj => by cases hj; simp, HFN.out, by rw [← HLN.out, ← HBV.out]; exact HOW.out, hbel1⟩
                                      · have HNX := Lib.hid hnx
                                        have HHZ := Lib.hid hz
                                        have g3 : ((k1 : Int) + 1 == (s.size : Int)) = false := by have := HK1.out; simp; omega
                                        clear hnx hz
                                        go_wp2_with fail
                                        go_roundw
                                        case rel => exact ⟨k + 2, G ++ [m], some (G.length + 1), by have := HK1.out; subst this; go_num, by rw [HGI.out] <;> go_num, HNX.out, by rw [← HLN.out, ← HBV.out]; exact HOW.out, hbel1⟩
                                        case measure => have := HK1.out; simp [intOf] <;> omega
                                  · have g1 : (k1 : Int) < s.size := by omega
                                    have g2 : (((s[k1]'h1).toNat : Int) == 58) = false := by simp; omega
                                    have g3 : ((k1 : Int) == (s.size : Int)) = false := by simp; omega
                                    have HNX := Lib.hid h3
                                    clear h2 h3 HH4
                                    go_wp2_with fail
                                    go_roundw
                                    case rel => exact ⟨k1, G ++ [m], gap, rfl, rfl, HNX.out, by rw [← HLN.out, ← HBV.out]; exact HOW.out, hbel1⟩
                                    case measure => have := HK1.out; simp [intOf] <;> omega
                · obtain rfl : x = s.size := by have := hat.1; omega
                  have hxI : ¬ ((s.size : Nat) : Int) < s.size := by omega
                  obtain ⟨_, h1, h2, h3, ⟨h4, _⟩ | ⟨_, h4⟩⟩ := hat
                  · exact absurd h4 hx
                  · go_wp2_with fail
                    go_meet
                    case rel => exact ⟨G, gap, rfl, by omega, h1, h2, h4, hown, hbx⟩
      · have e58 : decide ((58 : UInt8) ∈ bts s) = false := by simp [h58]
        rw [e58]
        have hP : parseA (bts s) = (refFour none [] (bts s)).map fun t => (false, valB t) := by unfold parseA; rw [if_neg h58, refFour_four]
        have HP := Lib.hid (HPA.out.symm.trans hP)
        have HF := Lib.hid (fun w => rfour_c s w hs)
        have ht4 : ∀ t, refFour none [] (bts s) = some t → t.length = 4 ∧ ∀ k ∈ t, k ≤ 255 := fun t h => by
          rw [refFour_four] at h
          unfold four at h
          split at h
          · rename_i h4
            obtain ⟨q1, q2⟩ := mapM8_lt h
            exact ⟨by omega, q2⟩
          · cases h
        have HT4 := Lib.hid ht4
        clear e58 hP HPA ht4
        generalize refFour none [] (bts s) = R at *
        go_wp2_with fail
        with_reducible refine (HF.out _).mono ?_
        rintro e w2 ⟨hF, hb⟩
        have hR2 := hR.after hb
        have hbel2 := bl_trans hbel hb
        clear HF
        rcases hF with ⟨rfl, v, rfl⟩ | ⟨t, v, rfl, rfl, hown⟩
        · have hn : P = none := HP.out
          have HN := Lib.hid hn
          clear hn HP
          obtain ⟨c0, c1, c2, _⟩ := blk_adr hR2
          have cz0 := hR2.frozen 0
          have cz1 := hR2.frozen 1
          have cz2 := hR2.frozen 2
          go_wp2_with fail
          obtain ⟨r0, r1, r2, _⟩ := blk_adr (v := false) (n := 0) (((hR2.put 0 (.bool false)).put 1 (.int .u64 0)).put 2 (.int .u64 0))
          refine bodyPost_ret (v := .tuple #[.agg #[.bool false, .int .u64 0, .int .u64 0], .int .i64 4]) (by simp [results, Tryz.results75, go_sem, r0, r1, r2, hi_zero, lo_zero]) rfl ⟨by rw [HN.out]; rfl, bl_⟩
        · obtain ⟨ht4, ht5⟩ := HT4.out t rfl
          obtain ⟨g, cap, rfl, g1, g2, g3, g4, g5⟩ := own_form hown (by omega)
          have HO := Lib.hid (fun w3 (hb : Below w2.heap.size w2 w3) => rofbytes_c g 0 4 cap t w3 ht4 (fun b hb => by have := ht5 b hb; omega) (by omega) (by omega) (fun j hj => by rw [Nat.zero_add, hb.cell (p := ⟨g, j, none⟩) g2]; exact g4 j _ (by rw [get_bytes (by simpa [ints] using hj)]; simp [ints, List.getD_eq_getElem?_getD, List.getElem?_eq_getElem hj])) (Nat.lt_of_lt_of_le g2 hb.size))
          have hn : P = some (false, valB t) := HP.out
          have HN := Lib.hid hn
          have hv : ((4 : Nat) == 16) = false := rfl
          rw [hv] at HO
          clear hn HP HT4 ht5 g4 g5 hown hv
          generalize valB t = V at *
          obtain ⟨c0, c1, c2, _⟩ := blk_adr hR2
          have cz0 := hR2.frozen 0
          have cz1 := hR2.frozen 1
          have cz2 := hR2.frozen 2
          go_wp2_with fail
          with_reducible refine (HO.out _ (Below.refl _ _)).mono ?_
          rintro e w3 ⟨rfl, hb3⟩
          have hR3 := hR2.after hb3
          have hbel3 := bl_trans hbel2 hb3
          clear cz0 cz1 cz2 c0 c1 c2
          obtain ⟨c0, c1, c2, _⟩ := blk_adr hR3
          have cz0 := hR3.frozen 0
          have cz1 := hR3.frozen 1
          have cz2 := hR3.frozen 2
          rw [AddrV_eq]
          unfold AddrC
          go_wp2_with fail
          obtain ⟨r0, r1, r2, _⟩ := blk_adr (v := false) (n := V) (((hR3.put 0 (.bool false)).put 1 (.int .u64 (hi V))).put 2 (.int .u64 (lo V)))
          refine bodyPost_ret (v := .tuple #[.agg #[.bool false, .int .u64 (hi V), .int .u64 (lo V)], .int .i64 0]) (by simp [results, Tryz.results75, go_sem, r0, r1, r2]) rfl ⟨by rw [HN.out]; rfl, bl_⟩
end Go.Proofs.YtgdgklibilddgaaGreatDoor

namespace Go.Proofs.YtgdgklibilddgaaGreatDoor
open Go.RowKit

def i64V (l : List Nat) : List Value := l.map fun n => Value.int .i64 (n : Nat)
theorem i64V_at {l : List Nat} {j x : Nat} (h : l[j]? = some x) : (i64V l)[j]? = some (.int .i64 (x : Nat)) := by simp [i64V, h]
theorem i64V_snoc (l : List Nat) (x : Nat) : i64V (l ++ [x]) = i64V l ++ [.int .i64 (x : Nat)] := by simp [i64V]
theorem grp_pair {n t : Nat} (ht : t < 8) : (grps n)[t]? = some (256 * (n / 256 ^ (15 - 2 * t) % 256) + n / 256 ^ (15 - (2 * t + 1)) % 256) := by
  rw [grps_at ht]
  congr 1
  have e1 : 65536 ^ (7 - t) = 256 ^ (15 - (2 * t + 1)) := by
    rw [show 15 - (2 * t + 1) = 2 * (7 - t) by omega, Nat.pow_mul]
  have e2 : 256 ^ (15 - 2 * t) = 256 ^ (15 - (2 * t + 1)) * 256 := by
    rw [show 15 - 2 * t = 15 - (2 * t + 1) + 1 by omega, Nat.pow_succ]
  rw [e1, e2, ← Nat.div_div_eq_div_mul]
  generalize n / 256 ^ (15 - (2 * t + 1)) = X
  omega
/-- the last sign of a text -/
theorem last_sign {s : ByteArray} {c : UInt8} {j : Nat} (hj : s.size = j + 1) (h : (bts s).getLast? = some c) : (s[j]'(by omega)).toNat = c.toNat := by
  have hl : (bts s).length = j + 1 := by simpa [bts] using hj
  rw [List.getLast?_eq_getElem?, hl, Nat.add_sub_cancel] at h
  obtain ⟨h1, h2⟩ := List.getElem?_eq_some_iff.1 h
  rw [← h2]; rfl
theorem joinH_len (L : List Nat) : (joinH L).length ≤ L.length * 5 := by
  have := join_len (c := [58]) (m := 4) (l := L.map hexD) (fun p hp => by
    obtain ⟨x, _, rfl⟩ := List.mem_map.1 hp
    exact hexD_len x)
  rw [List.length_map] at this
  exact this
theorem preT_len {G : List Nat} {f m i : Nat} (hl : G.length = 8) : (preT G f m i).length ≤ 100 := by
  unfold preT
  split
  · have := joinH_len (G.take i)
    have h : (G.take i).length ≤ 8 := by simp; omega
    omega
  · have h1 := joinH_len (G.take f)
    have h2 := joinH_len ((G.take i).drop (f + m))
    have h3 : (G.take f).length ≤ 8 := by simp; omega
    have h4 : ((G.take i).drop (f + m)).length ≤ 8 := by simp; omega
    rw [List.length_append, List.length_cons, List.length_cons]
    omega
theorem byte_cell {n j : Nat} (hj : j < 16) : (bytesV (ints (bytesB 16 n)))[j]? = some (.int .u8 ((n / 256 ^ (15 - j) % 256 : Nat) : Int)) := by
  have h := bytesB_at (k := 16) (n := n) hj
  simp only [bytesV, ints, List.getElem?_map, h, Option.map_some]
  rfl
set_option maxRecDepth 100000 in
set_option maxHeartbeats 3200000 in
theorem rprint6_c (n : Nat) (w : World) (hn : n < 340282366920938463463374607431768211456) :
    Calls Tryz.prog 76 #[AddrV true n] w fun e w' => e = .returned (.string ⟨(preT (grps n) (refRow (zeros (grps n))).1 (refRow (zeros (grps n))).2 8).toArray⟩) ∧ Below w.heap.size w w' := by
  have HR := Lib.hid (fun w => rright_c true n w hn)
  have hrt : rightB true n = true := decide_eq_true hn
  rw [hrt] at HR
  have HB := Lib.hid (fun w => rbytes_c true n w hn)
  obtain ⟨i0, hi0, hz0, hz1, hz2⟩ := info_parts info_int
  clear hrt
  simp only [AddrV_eq, AddrC] at *
  go_enter Tryz.func76, Tryz.ntmps76
  go_wp2_with fail
  have hA : Blk (w.alloc (Obj.cells #[.bool true, .int .u64 (hi n), .int .u64 (lo n)] 26)) (w.heap.size) 26 (AddrC true n) := (Blk.new' _ _ _ _ (by simp) : Blk (w.alloc (Obj.cells #[.bool true, .int .u64 (hi n), .int .u64 (lo n)] 26)) (w.heap.size) 26 (AddrC true n))
  have hbel : Below w.heap.size w (w.alloc (Obj.cells #[.bool true, .int .u64 (hi n), .int .u64 (lo n)] 26)) := bl_
  have hsz : (w.alloc (Obj.cells #[.bool true, .int .u64 (hi n), .int .u64 (lo n)] 26)).heap.size = w.heap.size + 1 := by simp
  generalize w.alloc (Obj.cells #[.bool true, .int .u64 (hi n), .int .u64 (lo n)] 26) = w0 at *
  with_reducible refine (HR.out _).mono ?_
  rintro e w1 ⟨rfl, hb⟩
  (try clear a0 a1 a2 az0 az1 az2 az3)
  replace hA := hA.after hb
  obtain ⟨a0, a1, a2, _⟩ := blk_adr hA
  have az0 := hA.frozen 0
  have az1 := hA.frozen 1
  have az2 := hA.frozen 2
  (try clear al al1 al2)
  have al := hA.lt
  have al1 := Nat.lt_succ_of_lt al
  have al2 := Nat.lt_succ_of_lt al1
  try simp only [Nat.succ_eq_add_one] at al1 al2
  replace hbel := bl_trans hbel hb
  clear hb
  go_wp2_with fail
  with_reducible refine (HB.out _).mono ?_
  rintro e w2 ⟨vb, rfl, hownb, hb⟩
  obtain ⟨gb, cb, rfl, _, q2, q3, q4, _⟩ := own_form hownb (by decide : 0 < byteN true)
  have hcb : 16 ≤ cb := q3
  have hx : ∀ j, j < 16 → w2.cell? ⟨gb, j, none⟩ = some (.int .u8 ((n / 256 ^ (15 - j) % 256 : Nat) : Int)) := fun j hj => q4 j _ (byte_cell hj)
  have HX := Lib.hid hx
  replace hA := hA.after hb
  replace hbel := bl_trans hbel hb
  clear hx q4 q3 hb hownb a0 a1 a2 az0 az1 az2
  have hlA := hA.lt
  obtain ⟨a0, a1, a2, _⟩ := blk_adr hA
  have az0 := hA.frozen 0
  have az1 := hA.frozen 1
  have az2 := hA.frozen 2
  have hb16 : byteN true = 16 := rfl
  rw [hb16]
  go_wp2_with fail
  have hown : (w2.alloc (.cells #[] 3)).ownsRow w2.heap.size 3 1 (.slice (some ⟨w2.heap.size, 0, none⟩) 0 0) 0 [] := own_empty w2 _ _ (Nat.le_refl _)
  have hbx : Below w2.heap.size w2 (w2.alloc (.cells #[] 3)) := bl_
  generalize w2.alloc (.cells #[] 3) = w3 at *
  clear hA hlA a0 a1 a2 az0 az1 az2
  go_loopw [4, 5] (fun vg vi wr => ∃ t k2 : Nat, t ≤ 8 ∧ k2 = 2 * t ∧ vi = .int .i64 (k2 : Nat) ∧ wr.ownsRow w2.heap.size 3 1 vg t (i64V ((grps n).take t)) ∧ Below w2.heap.size w2 wr) (fun _ i _ => 16 - (intOf i).toNat)
  case atStart => exact ⟨0, 0, by omega, rfl, rfl, hown, hbx⟩
  case round =>
    clear hown hbx
    obtain ⟨t, k2, ht, hk2, rfl, hown, hbx⟩ := hrel
    have hz := hbx.size
    by_cases hlt : t < 8
    · have d1 : (k2 : Int) < 16 := by omega
      have hk16 : k2 < 15 := by omega
      have x0 := (hbx.cell (p := ⟨gb, k2, none⟩) q2).trans (HX.out k2 (by omega))
      have x1 := (hbx.cell (p := ⟨gb, k2 + 1, none⟩) q2).trans (HX.out (k2 + 1) (by omega))
      have hgp := grp_pair (n := n) hlt
      rw [← hk2] at hgp
      have hp : n / 256 ^ (15 - k2) % 256 < 256 := Nat.mod_lt _ (by omega)
      have hq : n / 256 ^ (15 - (k2 + 1)) % 256 < 256 := Nat.mod_lt _ (by omega)
      have z0 := HX.out k2 (by omega)
      have z1 := HX.out (k2 + 1) (by omega)
      generalize n / 256 ^ (15 - k2) % 256 = p at *
      generalize n / 256 ^ (15 - (k2 + 1)) % 256 = q at *
      have hG : i64V ((grps n).take (t + 1)) = i64V ((grps n).take t) ++ [.int .i64 (256 * (p : Int) + q)] := by
        obtain ⟨h1, h2⟩ := List.getElem?_eq_some_iff.1 hgp
        rw [List.take_succ_eq_append_getElem h1, h2, i64V_snoc]
        simp
      have HG := Lib.hid hG
      have HK2 := Lib.hid hk2
      clear hG hgp hk2
      go_wp2_with fail
      have hownd : wr.drew.ownsRow w2.heap.size 3 1 u4 t (i64V ((grps n).take t)) := hown
      have hbd : Below w2.heap.size w2 wr.drew := bl_drew hbx
      have hzd : w2.heap.size ≤ wr.drew.heap.size := hz
      have hks : ∀ w', Below w2.heap.size w2 w' → (w'.cell? ⟨gb, k2, none⟩ = some (.int .u8 (p : Nat)) ∧ w'.cell? ⟨gb, k2 + 1, none⟩ = some (.int .u8 (q : Nat))) ∧ Below w2.heap.size w2 w' := fun w' h =>
        ⟨⟨(h.cell (p := ⟨gb, k2, none⟩) q2).trans z0, (h.cell (p := ⟨gb, k2 + 1, none⟩) q2).trans z1⟩, h⟩
      have HKS := Lib.hid hks
      have hw1 : IntKind.i64.wrap ((k2 : Int) + 1) = (k2 : Int) + 1 := IntWalk.i64_in _ (by omega)
      have hwp : IntKind.i64.wrap (p : Int) = p := IntWalk.i64_in _ (by omega)
      have hwq : IntKind.i64.wrap (q : Int) = q := IntWalk.i64_in _ (by omega)
      have hw2 : IntKind.i64.wrap (256 * (p : Int)) = 256 * (p : Int) := IntWalk.i64_in _ (by omega)
      have hw3 : IntKind.i64.wrap (256 * (p : Int) + q) = 256 * (p : Int) + q := IntWalk.i64_in _ (by omega)
      have hk0 : (0 : Int) ≤ (k2 : Int) + 1 := by omega
      have hk1 : (k2 : Int) + 1 < 16 := by omega
      have hk2' : ((k2 : Int) + 1).toNat = k2 + 1 := by omega
      clear hown hbx x0 x1 hks z0 z1
      refine wp_region_held_drew (S := fun w' => (w'.cell? ⟨gb, k2, none⟩ = some (.int .u8 (p : Nat)) ∧ w'.cell? ⟨gb, k2 + 1, none⟩ = some (.int .u8 (q : Nat))) ∧ Below w2.heap.size w2 w') (by kernel_rfl) ?_ (fun hHeld => ?_)
      · (first | exact HKS.out _ hbd | exact HKS.out _ (bl_alloc hbd _) | exact HKS.out _ (below_own hbd hownd (Nat.le_refl _) hgrow))
      refine take_q (i := 0) (v := ?_) rfl (by kernel_rfl) (by kernel_rfl) (by kernel_rfl) (fun _ _ _ h => h) (Or.inl ⟨by rfl, ?_⟩) (by assumption) ?_
      rotate_left
      · intro w hSw; (try dsimp only at hSw); go_simp; (try simp only [HDEC.out]); (try simp only [HDEC2.out]); try with_reducible rfl
      try simp only [Act.put, List.setIfInBounds_toArray, List.set_cons_zero, List.set_cons_succ]
      refine take_q (i := 1) (v := ?_) rfl (by kernel_rfl) (by kernel_rfl) (by kernel_rfl) (fun _ _ _ h => h) (Or.inl ⟨by rfl, ?_⟩) (by assumption) ?_
      rotate_left
      · intro w hSw; (try dsimp only at hSw); go_simp; (try simp only [HDEC.out]); (try simp only [HDEC2.out]); try with_reducible rfl
      try simp only [Act.put, List.setIfInBounds_toArray, List.set_cons_zero, List.set_cons_succ]
      refine take_q (i := 2) (v := ?_) rfl (by kernel_rfl) (by kernel_rfl) (by kernel_rfl) (fun _ _ _ h => h) (Or.inl ⟨by rfl, ?_⟩) (by assumption) ?_
      rotate_left
      · intro w hSw; (try dsimp only at hSw); go_simp; (try simp only [HDEC.out]); (try simp only [HDEC2.out]); try with_reducible rfl
      try simp only [Act.put, List.setIfInBounds_toArray, List.set_cons_zero, List.set_cons_succ]
      refine take_q (i := 3) (v := ?_) rfl (by kernel_rfl) (by kernel_rfl) (by kernel_rfl) (fun _ _ _ h => h) (Or.inl ⟨by rfl, ?_⟩) (by assumption) ?_
      rotate_left
      · intro w hSw; (try dsimp only at hSw); go_simp; (try simp only [HDEC.out]); (try simp only [HDEC2.out]); try with_reducible rfl
      try simp only [Act.put, List.setIfInBounds_toArray, List.set_cons_zero, List.set_cons_succ]
      refine take_q (i := 4) (v := ?_) rfl (by kernel_rfl) (by kernel_rfl) (by kernel_rfl) (fun _ _ _ h => h) (Or.inl ⟨by rfl, ?_⟩) (by assumption) ?_
      rotate_left
      · intro w hSw; (try dsimp only at hSw); go_simp; (try simp only [HDEC.out]); (try simp only [HDEC2.out]); try with_reducible rfl
      try simp only [Act.put, List.setIfInBounds_toArray, List.set_cons_zero, List.set_cons_succ]
      refine take_q (i := 5) (v := ?_) rfl (by kernel_rfl) (by kernel_rfl) (by kernel_rfl) (fun _ _ _ h => h) (Or.inl ⟨by rfl, ?_⟩) (by assumption) ?_
      rotate_left
      · intro w hSw; (try dsimp only at hSw); go_simp; (try simp only [HDEC.out]); (try simp only [HDEC2.out]); try with_reducible rfl
      try simp only [Act.put, List.setIfInBounds_toArray, List.set_cons_zero, List.set_cons_succ]
      refine take_q (i := 6) (v := ?_) rfl (by kernel_rfl) (by kernel_rfl) (by kernel_rfl) (fun _ _ _ h => h) (Or.inl ⟨by rfl, ?_⟩) (by assumption) ?_
      rotate_left
      · intro w hSw; (try dsimp only at hSw); go_simp; (try simp only [HDEC.out]); (try simp only [HDEC2.out]); try with_reducible rfl
      try simp only [Act.put, List.setIfInBounds_toArray, List.set_cons_zero, List.set_cons_succ]
      refine take_q (i := 7) (v := ?_) rfl (by kernel_rfl) (by kernel_rfl) (by kernel_rfl) (fun _ _ _ h => h) (Or.inl ⟨by rfl, ?_⟩) (by assumption) ?_
      rotate_left
      · intro w hSw; (try dsimp only at hSw); go_simp; (try simp only [HDEC.out]); (try simp only [HDEC2.out]); try with_reducible rfl
      try simp only [Act.put, List.setIfInBounds_toArray, List.set_cons_zero, List.set_cons_succ]
      refine take_q (i := 8) (v := ?_) rfl (by kernel_rfl) (by kernel_rfl) (by kernel_rfl) (fun _ _ _ h => h) (Or.inl ⟨by rfl, ?_⟩) (by assumption) ?_
      rotate_left
      · intro w hSw; (try dsimp only at hSw); go_simp; (try simp only [HDEC.out]); (try simp only [HDEC2.out]); try with_reducible rfl
      try simp only [Act.put, List.setIfInBounds_toArray, List.set_cons_zero, List.set_cons_succ]
      refine take_q (i := 9) (v := ?_) rfl (by kernel_rfl) (by kernel_rfl) (by kernel_rfl) (fun _ _ _ h => h) (Or.inl ⟨by rfl, ?_⟩) (by assumption) ?_
      rotate_left
      · intro w hSw; (try dsimp only at hSw); go_simp; (try simp only [HDEC.out]); (try simp only [HDEC2.out]); try with_reducible rfl
      try simp only [Act.put, List.setIfInBounds_toArray, List.set_cons_zero, List.set_cons_succ]
      refine take_q (i := 10) (v := ?_) rfl (by kernel_rfl) (by kernel_rfl) (by kernel_rfl) (fun _ _ _ h => h) (Or.inl ⟨by rfl, ?_⟩) (by assumption) ?_
      rotate_left
      · intro w hSw; (try dsimp only at hSw); go_simp; (try simp only [HDEC.out]); (try simp only [HDEC2.out]); try with_reducible rfl
      try simp only [Act.put, List.setIfInBounds_toArray, List.set_cons_zero, List.set_cons_succ]
      refine take_q (i := 11) (v := ?_) rfl (by kernel_rfl) (by kernel_rfl) (by kernel_rfl) (fun _ _ _ h => h) (Or.inl ⟨by rfl, ?_⟩) (by assumption) ?_
      rotate_left
      · intro w hSw; (try dsimp only at hSw); go_simp; (try simp only [HDEC.out]); (try simp only [HDEC2.out]); try with_reducible rfl
      try simp only [Act.put, List.setIfInBounds_toArray, List.set_cons_zero, List.set_cons_succ]
      refine take_q (i := 12) (v := ?_) rfl (by kernel_rfl) (by kernel_rfl) (by kernel_rfl) (fun _ _ _ h => h) (Or.inl ⟨by rfl, ?_⟩) (by assumption) ?_
      rotate_left
      · intro w hSw; (try dsimp only at hSw); go_simp; (try simp only [HDEC.out]); (try simp only [HDEC2.out]); try with_reducible rfl
      try simp only [Act.put, List.setIfInBounds_toArray, List.set_cons_zero, List.set_cons_succ]
      refine take_q (i := 13) (v := ?_) rfl (by kernel_rfl) (by kernel_rfl) (by kernel_rfl) (fun _ _ _ h => h) (Or.inl ⟨by rfl, ?_⟩) (by assumption) ?_
      rotate_left
      · intro w hSw; (try dsimp only at hSw); go_simp; (try simp only [HDEC.out]); (try simp only [HDEC2.out]); try with_reducible rfl
      try simp only [Act.put, List.setIfInBounds_toArray, List.set_cons_zero, List.set_cons_succ]
      refine wpAnyH_ready (rs := [14]) (by kernel_rfl) (by simp) ?_
      refine cons_q rfl (fun K hK => ?_) AllReadyH.nil
      go_simp
      refine hK.out _ _ ?_ (fun hHeld => ?_)
      · (first | exact HKS.out _ hbd | exact HKS.out _ (bl_alloc hbd _) | exact HKS.out _ (below_own hbd hownd (Nat.le_refl _) hgrow))
      clear hK K
      try simp only [Act.put, List.setIfInBounds_toArray, List.set_cons_zero, List.set_cons_succ]
      refine wpAnyH_ready (rs := [15]) (by kernel_rfl) (by simp) ?_
      refine cons_q rfl (fun K hK => ?_) AllReadyH.nil
      refine step_append_lies _ (by rfl) _ _ _ (by rfl) w2.heap.size 3 i0 (.int .i64 0) 1 8 Tryz.underlying91 hi0 hz0 hz1 hz2 (by rfl) (by decide) _ t _ (by rfl) (hownd.alloc _) ⟨wr.drew.heap.size, 0, none⟩ 1 1 [.int .i64 (256 * (p : Int) + q)] (by rfl) (by rfl) (cell_list wr [.int .i64 (256 * (p : Int) + q)] _) (one_cell_k _ _) (by omega) (by simp only [maxLen]; omega) (by omega) (by simp; omega) _ rfl ?_; intro g cap w1 hown' hgrow hat hlt
      refine hK.out _ _ ?_ (fun hHeld => ?_)
      · (first | exact HKS.out _ hbd | exact HKS.out _ (bl_alloc hbd _) | exact HKS.out _ (below_own hbd hownd (Nat.le_refl _) hgrow))
      clear hK K
      try simp only [Act.put, List.setIfInBounds_toArray, List.set_cons_zero, List.set_cons_succ]
      refine take_q (i := 16) (v := ?_) rfl (by kernel_rfl) (by kernel_rfl) (by kernel_rfl) (fun _ _ _ h => h) (Or.inl ⟨by rfl, ?_⟩) (by assumption) ?_
      rotate_left
      · intro w hSw; (try dsimp only at hSw); go_simp; (try simp only [HDEC.out]); (try simp only [HDEC2.out]); try with_reducible rfl
      try simp only [Act.put, List.setIfInBounds_toArray, List.set_cons_zero, List.set_cons_succ]
      refine wpAnyH_done (by kernel_rfl) ?_ _
      go_wp2_with fail
      go_roundw
      case rel => exact ⟨t + 1, k2 + 2, by omega, by have := HK2.out; omega, by go_num, by rw [HG.out]; exact hown', hHeld.2⟩
      case measure => simp [intOf]; omega
    · obtain rfl : t = 8 := by omega
      have d1 : ¬ (k2 : Int) < 16 := by omega
      rw [List.take_of_length_le (by rw [grps_len]; exact Nat.le_refl _)] at hown
      obtain ⟨gg, cg, rfl, _, r2, r3, r4, _⟩ := own_form hown (by omega : 0 < 8)
      have hg : ∀ (j x : Nat), (grps n)[j]? = some x → wr.cell? ⟨gg, j, none⟩ = some (.int .i64 (x : Nat)) := fun j x h => r4 j _ (i64V_at h)
      have HGC := Lib.hid hg
      have HGL := Lib.hid (grps_len n)
      have HG6 := Lib.hid (fun g (h : g ∈ grps n) => grps_lt h)
      have hbw := bl_trans hbel hbx
      clear hg r4 hown hbx hbel hk2 HX HB HR
      obtain ⟨G, hGE⟩ : ∃ G, grps n = G := ⟨_, rfl⟩
      rw [hGE] at HGC HGL HG6
      have HGE := Lib.hid hGE
      clear hGE
      have hzl : (zeros G).length = 8 := by rw [zeros_len, HGL.out]
      have HZL := Lib.hid hzl
      clear hzl
      go_wp2_with fail
      go_loopw [6, 7, 8] (fun vf vm vi ws => ∃ i : Nat, i ≤ 8 ∧ vi = .int .i64 i ∧ vf = .int .i64 ((refAt (zeros G) i).1 : Nat) ∧ vm = .int .i64 ((refAt (zeros G) i).2 : Nat) ∧ Below wr.heap.size wr ws) (fun _ _ i _ => 8 - (intOf i).toNat)
      case atStart => exact ⟨0, by omega, rfl, rfl, rfl, Below.refl _ _⟩
      case round =>
        obtain ⟨i, hi, rfl, rfl, rfl, hbs⟩ := hrel
        by_cases hlt : i < 8
        · have d1 : (i : Int) < 8 := by omega
          go_wp2_with fail
          go_loopw [9] (fun vn ws => ∃ d : Nat, i + d ≤ 8 ∧ vn = .int .i64 d ∧ (∀ j, i ≤ j → j < i + d → (zeros G)[j]? = some true) ∧ Below wr.heap.size wr ws) (fun k _ => 8 - (intOf k).toNat)
          case atStart => exact ⟨0, by omega, rfl, fun j a b => absurd b (by omega), Below.refl _ _⟩
          case round =>
            obtain ⟨d, hd, rfl, hall, hbt⟩ := hrel
            have HALL := Lib.hid hall
            clear hall
            have key : (i + d < 8 ∧ (zeros G)[i + d]? = some true) ∨ (runAt ((zeros G).drop i) = d) := by
              by_cases h8 : i + d < 8
              · by_cases hz : (zeros G)[i + d]? = some true
                · exact .inl ⟨h8, hz⟩
                · exact .inr (runAt_is d i (fun j a b => HALL.out j a b) hz)
              · refine .inr (runAt_is d i (fun j a b => HALL.out j a b) ?_)
                rw [List.getElem?_eq_none (by rw [HZL.out]; omega)]
                simp
            have hrd : ∀ h : i + d < 8, ∃ x, G[i + d]? = some x ∧ x < 65536 := fun h => ⟨_, List.getElem?_eq_getElem (by rw [HGL.out]; exact h), HG6.out _ (List.getElem_mem _)⟩
            have HRD := Lib.hid hrd
            clear hrd
            rcases key with ⟨h8, hz⟩ | hrun
            · have d2 : (i : Int) + d < 8 := by omega
              obtain ⟨x, hx, hx6⟩ := HRD.out h8
              have hxz : x = 0 := by
                rw [zeros_at hx] at hz
                simpa using hz
              subst hxz
              have c0 := (hbt.cell (p := ⟨gg, i + d, none⟩) (Nat.lt_of_lt_of_le r2 hbs.size)).trans ((hbs.cell (p := ⟨gg, i + d, none⟩) r2).trans (HGC.out _ _ hx))
              have HNEXT : Hid (∀ j, i ≤ j → j < i + (d + 1) → (zeros G)[j]? = some true) := Lib.hid (fun j a b => by
                by_cases e : j = i + d
                · subst e; exact hz
                · exact HALL.out j a (by omega))
              clear hz hx
              go_wp2_with fail
              go_roundw
              case rel => exact ⟨d + 1, by omega, by go_num, HNEXT.out, bl_⟩
              case measure => simp [intOf]; omega
            · have HEX : Hid (i + d = 8 ∨ (i + d < 8 ∧ ∃ x, G[i + d]? = some x ∧ x < 65536 ∧ x ≠ 0)) := Lib.hid (by
                by_cases h8 : i + d < 8
                · obtain ⟨x, hx, hx6⟩ := HRD.out h8
                  exact .inr ⟨h8, x, hx, hx6, run_exit (k := i + d) (by rw [hrun]; omega) (by omega) HALL.out hx⟩
                · exact .inl (by omega))
              have hst : refAt (zeros G) (i + 1) = if (refAt (zeros G) i).2 < d then (i, d) else refAt (zeros G) i := by
                rw [refAt_succ]
                unfold stepRef
                rw [hrun]
              obtain ⟨hb1, hb2⟩ := refAt_bd (z := zeros G) HZL.out i (by omega)
              generalize refAt (zeros G) i = p at *
              obtain ⟨f, m⟩ := p
              simp only at hb1 hb2 hst
              have hc : ((m : Int) < d ∧ (refAt (zeros G) (i + 1)).1 = i ∧ (refAt (zeros G) (i + 1)).2 = d) ∨ (¬ (m : Int) < d ∧ (refAt (zeros G) (i + 1)).1 = f ∧ (refAt (zeros G) (i + 1)).2 = m) := by
                rw [hst]
                by_cases q1 : m < d
                · rw [if_pos q1]; exact .inl ⟨by omega, rfl, rfl⟩
                · rw [if_neg q1]; exact .inr ⟨by omega, rfl, rfl⟩
              clear hst hrun HALL HRD
              have hbn : Below wr.heap.size wr wr := Below.refl _ _
              rcases HEX.out with h8 | ⟨h8, x, hx, hx6, hx0⟩
              · have d2 : ¬ (i : Int) + d < 8 := by omega
                rcases hc with ⟨d3, e1, e2⟩ | ⟨d3, e1, e2⟩
                all_goals
                  have E1 := Lib.hid e1
                  have E2 := Lib.hid e2
                  have H8 := Lib.hid h8
                  have hbq := hbs.trans (hbt.mono hbs.size)
                  clear e1 e2 HEX h8
                  go_wp2_with fail
                  go_roundw
                  case rel => exact ⟨i + 1, by omega, by go_num, by first | (rw [E1.out]; done) | (rw [E1.out]; rfl), by first | (rw [E2.out]; done) | (rw [E2.out]; rfl), hbq⟩
                  case measure => simp [intOf]; omega
              · have d2 : (i : Int) + d < 8 := by omega
                have c0 := (hbt.cell (p := ⟨gg, i + d, none⟩) (Nat.lt_of_lt_of_le r2 hbs.size)).trans ((hbs.cell (p := ⟨gg, i + d, none⟩) r2).trans (HGC.out _ _ hx))
                have d5 : ((x : Int) == 0) = false := by simp; omega
                clear hx HEX
                rcases hc with ⟨d3, e1, e2⟩ | ⟨d3, e1, e2⟩
                all_goals
                  have E1 := Lib.hid e1
                  have E2 := Lib.hid e2
                  have hbq := hbs.trans (hbt.mono hbs.size)
                  clear e1 e2
                  go_wp2_with fail
                  go_roundw
                  case rel => exact ⟨i + 1, by omega, by go_num, by first | (rw [E1.out]; done) | (rw [E1.out]; rfl), by first | (rw [E2.out]; done) | (rw [E2.out]; rfl), hbq⟩
                  case measure => simp [intOf]; omega
        · obtain rfl : i = 8 := by omega
          have d1 : ¬ (8 : Int) < 8 := by omega
          have he : refAt (zeros G) 8 = refRow (zeros G) := refAt_end _
          rw [he]
          obtain ⟨_, _, _, hfm, _⟩ := rows_of HGL.out
          obtain ⟨f, hF⟩ : ∃ f, (refRow (zeros G)).1 = f := ⟨_, rfl⟩
          obtain ⟨m, hM⟩ : ∃ f, (refRow (zeros G)).2 = f := ⟨_, rfl⟩
          have HF := Lib.hid hF
          have HM := Lib.hid hM
          rw [hF, hM] at hfm
          rw [hF, hM]
          clear hF hM he
          have hbw2 := bl_trans hbw hbs
          go_wp2_with fail
          go_loopw [10, 11] (fun vs vi ws => ∃ (i : Nat) (S : ByteArray), i ≤ 8 ∧ (m < 2 ∨ i ≤ f ∨ f + m ≤ i) ∧ vi = .int .i64 i ∧ vs = .string S ∧ bts S = preT G f m i ∧ Below wr.heap.size wr ws) (fun _ i _ => 8 - (intOf i).toNat)
          case atStart => exact ⟨0, ⟨#[]⟩, by omega, by omega, rfl, rfl, by unfold preT; rw [if_pos (.inr (Nat.zero_le _))]; rfl, Below.refl _ _⟩
          case round =>
            obtain ⟨i, S, hi, hpos, rfl, rfl, hS, hbt⟩ := hrel
            have hSz : S.size ≤ 100 := by
              have h1 : (bts S).length = S.size := by simp [bts]
              rw [← h1, hS]
              exact preT_len HGL.out
            have HS := Lib.hid hS
            clear hS
            by_cases hlt : i < 8
            · have d1 : (i : Int) < 8 := by omega
              obtain ⟨x, hx⟩ : ∃ x, G[i]? = some x := ⟨_, List.getElem?_eq_getElem (by rw [HGL.out]; exact hlt)⟩
              have hx6 : x < 65536 := HG6.out _ (List.mem_of_getElem? hx)
              have c0 := (hbt.cell (p := ⟨gg, i, none⟩) (Nat.lt_of_lt_of_le r2 hbs.size)).trans ((hbs.cell (p := ⟨gg, i, none⟩) r2).trans (HGC.out _ _ hx))
              have HHX := Lib.hid (fun w => rhex_c x w hx6)
              have hhz : (hexT x).size ≤ 4 := hexD_len x
              by_cases hA : 2 ≤ m ∧ i = f
              · obtain ⟨hm2, rfl⟩ := hA
                have d2 : (2 : Int) ≤ m := by omega
                have hnx : bts (S ++ ⟨#[58, 58]⟩) = preT G i m (i + m) := by
                  rw [preT_skip hm2 (by rw [HGL.out]; exact hfm), ← HS.out]
                  simp [bts]
                have HNX := Lib.hid hnx
                clear hnx hx
                go_wp2_with fail
                go_roundw
                case rel => exact ⟨i + m, S ++ ⟨#[58, 58]⟩, by omega, .inr (.inr (Nat.le_refl _)), by first | go_num | (congr 1; omega), rfl, HNX.out, hbt⟩
                case measure => simp [intOf]; omega
              · have hpos2 : m < 2 ∨ i < f ∨ f + m ≤ i := by omega
                have HPS := Lib.hid (preT_step HG6.out hx hpos2)
                have HNX : Hid (m < 2 ∨ i + 1 ≤ f ∨ f + m ≤ i + 1) := Lib.hid (by omega)
                have hcond : (¬ (2 : Int) ≤ m) ∨ ((2 : Int) ≤ m ∧ ((i : Int) == f) = false) := by
                  by_cases h2 : 2 ≤ m
                  · exact .inr ⟨by omega, by simp; omega⟩
                  · exact .inl (by omega)
                have hsep : (S = ⟨#[]⟩ ∧ sepT (preT G f m i) = []) ∨ (∃ j, ∃ hj : S.size = j + 1, ((S[j]'(by omega)).toNat = 58 ∧ sepT (preT G f m i) = [])) ∨ (∃ j d, ∃ hj : S.size = j + 1, ((S[j]'(by omega)).toNat = d ∧ d ≠ 58 ∧ sepT (preT G f m i) = [58])) := by
                  rw [← HS.out]
                  unfold sepT
                  by_cases he : bts S = []
                  · refine .inl ⟨?_, by rw [if_neg (fun h => h.1 he)]⟩
                    apply ByteArray.ext
                    apply Array.toList_inj.1
                    exact he
                  · obtain ⟨j, hj⟩ : ∃ j, S.size = j + 1 := by
                      have h1 : (bts S).length = S.size := by simp [bts]
                      have h2 : (bts S).length ≠ 0 := fun h => he (List.eq_nil_of_length_eq_zero h)
                      exact ⟨S.size - 1, by omega⟩
                    obtain ⟨c, hc⟩ : ∃ c, (bts S).getLast? = some c := by
                      cases h : (bts S).getLast? with
                      | none => exact absurd (List.getLast?_eq_none_iff.1 h) he
                      | some c => exact ⟨c, rfl⟩
                    have hl := last_sign hj hc
                    by_cases h58 : c = 58
                    · subst h58
                      exact .inr (.inl ⟨j, hj, by rw [hl]; rfl, by rw [if_neg (fun h => h.2 hc)]⟩)
                    · refine .inr (.inr ⟨j, c.toNat, hj, hl, fun h => h58 (UInt8.toNat_inj.1 h), ?_⟩)
                      rw [if_pos ⟨he, fun h => h58 (by rw [hc] at h; exact Option.some.inj h)⟩]
                clear hx hA hpos hpos2
                rcases hsep with ⟨rfl, hse⟩ | ⟨j, hj, hl, hse⟩ | ⟨j, d, hj, hl, hd58, hse⟩
                · have hbs3 : bts (⟨#[]⟩ ++ hexT x) = preT G f m i ++ sepT (preT G f m i) ++ hexD x := by
                    rw [hse, ← HS.out]; simp [bts, hexT]
                  have HBS := Lib.hid hbs3
                  clear hbs3 hse
                  rcases hcond with d2 | ⟨d2, d3⟩
                  all_goals
                    go_wp2_with fail
                    with_reducible refine (HHX.out _).mono ?_
                    rintro e w7 ⟨rfl, hb7⟩
                    have hbt7 := hbt.trans (hb7.mono hbt.size)
                    go_wp2_with fail
                    go_roundw
                    case rel => exact ⟨i + 1, _, by omega, HNX.out, by go_num, rfl, by rw [HPS.out]; exact HBS.out, hbt7⟩
                    case measure => simp [intOf]; omega
                · have hbs3 : bts (S ++ hexT x) = preT G f m i ++ sepT (preT G f m i) ++ hexD x := by
                    rw [hse, ← HS.out]; simp [bts, hexT]
                  have HBS := Lib.hid hbs3
                  have hsI : (S.size : Int) = j + 1 := by omega
                  have hjl : j < S.size := by omega
                  have hne : ¬ S = ⟨#[]⟩ := fun h => by
                    rw [h] at hj
                    exact absurd hj (by show ¬ (0 = j + 1); omega)
                  have hne2 : ¬ S.toList = [] := fun h => hne (by
                    rw [Lib.toList_data] at h
                    apply ByteArray.ext
                    exact Array.toList_inj.1 h)
                  have hne3 : S.toList.isEmpty = false := by
                    cases h : S.toList with
                    | nil => exact absurd h hne2
                    | cons a b => rfl
                  have hne4 : (S.toList == []) = false := by simpa using hne2
                  clear hbs3 hse hne
                  rcases hcond with d2 | ⟨d2, d3⟩
                  all_goals
                    go_wp2_with fail
                    with_reducible refine (HHX.out _).mono ?_
                    rintro e w7 ⟨rfl, hb7⟩
                    have hbt7 := hbt.trans (hb7.mono hbt.size)
                    go_wp2_with fail
                    go_roundw
                    case rel => exact ⟨i + 1, _, by omega, HNX.out, by go_num, rfl, by rw [HPS.out]; exact HBS.out, hbt7⟩
                    case measure => simp [intOf]; omega
                · have hbs3 : bts (S ++ ⟨#[58]⟩ ++ hexT x) = preT G f m i ++ sepT (preT G f m i) ++ hexD x := by
                    rw [hse, ← HS.out]; simp [bts, hexT]
                  have HBS := Lib.hid hbs3
                  have hsI : (S.size : Int) = j + 1 := by omega
                  have hjl : j < S.size := by omega
                  have hne : ¬ S = ⟨#[]⟩ := fun h => by
                    rw [h] at hj
                    exact absurd hj (by show ¬ (0 = j + 1); omega)
                  have hne2 : ¬ S.toList = [] := fun h => hne (by
                    rw [Lib.toList_data] at h
                    apply ByteArray.ext
                    exact Array.toList_inj.1 h)
                  have hne3 : S.toList.isEmpty = false := by
                    cases h : S.toList with
                    | nil => exact absurd h hne2
                    | cons a b => rfl
                  have hne4 : (S.toList == []) = false := by simpa using hne2
                  have e58 : ((d : Int) == 58) = false := by simp; omega
                  have e58' : ((d : Int) != 58) = true := by simp; omega
                  clear hbs3 hse hne
                  rcases hcond with d2 | ⟨d2, d3⟩
                  all_goals
                    go_wp2_with fail
                    with_reducible refine (HHX.out _).mono ?_
                    rintro e w7 ⟨rfl, hb7⟩
                    have hbt7 := hbt.trans (hb7.mono hbt.size)
                    go_wp2_with fail
                    go_roundw
                    case rel => exact ⟨i + 1, _, by omega, HNX.out, by go_num, rfl, by rw [HPS.out]; exact HBS.out, hbt7⟩
                    case measure => simp [intOf]; omega
            · obtain rfl : i = 8 := by omega
              have d1 : ¬ (8 : Int) < 8 := by omega
              have hfin : S = ⟨(preT G (refRow (zeros G)).1 (refRow (zeros G)).2 8).toArray⟩ := by
                rw [HF.out, HM.out]
                apply ByteArray.ext
                apply Array.toList_inj.1
                show bts S = _
                rw [HS.out]
              have HFIN := Lib.hid hfin
              clear hfin
              go_wp2_with fail
              go_ret
              exact ⟨by rw [HGE.out, ← HFIN.out]; rfl, bl_trans hbw2 hbt⟩
end Go.Proofs.YtgdgklibilddgaaGreatDoor

namespace Go.Proofs.YtgdgklibilddgaaGreatDoor
open Go.RowKit

set_option maxRecDepth 100000 in
theorem rprint_no (v6 : Bool) (n : Nat) (w : World) (hn : n < 340282366920938463463374607431768211456) (hr : rightB v6 n = false) :
    Calls Tryz.prog 76 #[AddrV v6 n] w fun e w' => e = .returned (.string ⟨#[]⟩) ∧ Below w.heap.size w w' := by
  have HR := Lib.hid (fun w => rright_c v6 n w hn)
  rw [hr] at HR
  simp only [AddrV_eq, AddrC] at *
  go_enter Tryz.func76, Tryz.ntmps76
  go_wp2_with fail
  with_reducible refine (HR.out _).mono ?_
  rintro e w1 ⟨rfl, hb1⟩
  go_wp2_with fail
  go_ret
  exact ⟨rfl, bl_⟩
theorem byte_cell4 {n j : Nat} (hj : j < 4) : (bytesV (ints (bytesB 4 n)))[j]? = some (.int .u8 ((n / 256 ^ (3 - j) % 256 : Nat) : Int)) := by
  have h := bytesB_at (k := 4) (n := n) hj
  simp only [bytesV, ints, List.getElem?_map, h, Option.map_some]
  rfl
set_option maxRecDepth 100000 in
set_option maxHeartbeats 3200000 in
theorem rprint4_c (n : Nat) (w : World) (hn : n < 4294967296) :
    Calls Tryz.prog 76 #[AddrV false n] w fun e w' => e = .returned (.string ⟨(print4 n).toArray⟩) ∧ Below w.heap.size w w' := by
  have hn2 : n < 340282366920938463463374607431768211456 := Nat.lt_trans hn (by decide)
  have HR := Lib.hid (fun w => rright_c false n w hn2)
  have hrt : rightB false n = true := decide_eq_true hn
  rw [hrt] at HR
  have HB := Lib.hid (fun w => rbytes_c false n w hn2)
  clear hrt
  simp only [AddrV_eq, AddrC] at *
  go_enter Tryz.func76, Tryz.ntmps76
  go_wp2_with fail
  have hA : Blk (w.alloc (Obj.cells #[.bool false, .int .u64 (hi n), .int .u64 (lo n)] 26)) (w.heap.size) 26 (AddrC false n) := (Blk.new' _ _ _ _ (by simp) : Blk (w.alloc (Obj.cells #[.bool false, .int .u64 (hi n), .int .u64 (lo n)] 26)) (w.heap.size) 26 (AddrC false n))
  have hbel : Below w.heap.size w (w.alloc (Obj.cells #[.bool false, .int .u64 (hi n), .int .u64 (lo n)] 26)) := bl_
  have hsz : (w.alloc (Obj.cells #[.bool false, .int .u64 (hi n), .int .u64 (lo n)] 26)).heap.size = w.heap.size + 1 := by simp
  generalize w.alloc (Obj.cells #[.bool false, .int .u64 (hi n), .int .u64 (lo n)] 26) = w0 at *
  with_reducible refine (HR.out _).mono ?_
  rintro e w1 ⟨rfl, hb⟩
  (try clear a0 a1 a2 az0 az1 az2 az3)
  replace hA := hA.after hb
  obtain ⟨a0, a1, a2, _⟩ := blk_adr hA
  have az0 := hA.frozen 0
  have az1 := hA.frozen 1
  have az2 := hA.frozen 2
  (try clear al al1 al2)
  have al := hA.lt
  have al1 := Nat.lt_succ_of_lt al
  have al2 := Nat.lt_succ_of_lt al1
  try simp only [Nat.succ_eq_add_one] at al1 al2
  replace hbel := bl_trans hbel hb
  clear hb
  go_wp2_with fail
  with_reducible refine (HB.out _).mono ?_
  rintro e w2 ⟨vb, rfl, hownb, hb⟩
  obtain ⟨gb, cb, rfl, _, q2, q3, q4, _⟩ := own_form hownb (by decide : 0 < byteN false)
  have hcb : 4 ≤ cb := q3
  have hx : ∀ j, j < 4 → w2.cell? ⟨gb, j, none⟩ = some (.int .u8 ((n / 256 ^ (3 - j) % 256 : Nat) : Int)) := fun j hj => q4 j _ (byte_cell4 hj)
  have y0 := hx 0 (by omega)
  have y1 := hx 1 (by omega)
  have y2 := hx 2 (by omega)
  have y3 := hx 3 (by omega)
  replace hA := hA.after hb
  replace hbel := bl_trans hbel hb
  clear hx q4 q3 hb hownb a0 a1 a2 az0 az1 az2
  obtain ⟨a0, a1, a2, _⟩ := blk_adr hA
  have az0 := hA.frozen 0
  have az1 := hA.frozen 1
  have az2 := hA.frozen 2
  have hb4 : byteN false = 4 := rfl
  rw [hb4]
  have hpr : (⟨(print4 n).toArray⟩ : ByteArray) = itoaT (n / 256 ^ (3 - 0) % 256) ++ ⟨#[46]⟩ ++ itoaT (n / 256 ^ (3 - 1) % 256) ++ ⟨#[46]⟩ ++ itoaT (n / 256 ^ (3 - 2) % 256) ++ ⟨#[46]⟩ ++ itoaT (n / 256 ^ (3 - 3) % 256) := by
    apply ByteArray.ext
    apply Array.toList_inj.1
    unfold print4 itoaT
    rw [show bytesB 4 n = [n / 256 ^ (3 - 0) % 256, n / 256 ^ (3 - 1) % 256, n / 256 ^ (3 - 2) % 256, n / 256 ^ (3 - 3) % 256] from rfl]
    simp only [List.map, join_cons, join_one]
    simp
  have p0 : n / 256 ^ (3 - 0) % 256 < 256 := Nat.mod_lt _ (by omega)
  have p1 : n / 256 ^ (3 - 1) % 256 < 256 := Nat.mod_lt _ (by omega)
  have p2 : n / 256 ^ (3 - 2) % 256 < 256 := Nat.mod_lt _ (by omega)
  have p3 : n / 256 ^ (3 - 3) % 256 < 256 := Nat.mod_lt _ (by omega)
  have HPR := Lib.hid hpr
  clear hpr
  obtain ⟨e0, he0⟩ : ∃ e, n / 256 ^ (3 - 0) % 256 = e := ⟨_, rfl⟩
  rw [he0] at HPR p0 y0
  clear he0
  have HD0 := Lib.hid (fun w => rdec_c e0 w p0)
  have hz0 : (itoaT e0).size ≤ 3 := (by decide +kernel : ∀ x, x < 256 → (itoaT x).size ≤ 3) e0 p0
  have hw0 : IntKind.i64.wrap (e0 : Int) = e0 := IntWalk.i64_in _ (by omega)
  obtain ⟨D0, hD0⟩ : ∃ D, itoaT e0 = D := ⟨_, rfl⟩
  rw [hD0] at HPR HD0 hz0
  clear hD0
  obtain ⟨e1, he1⟩ : ∃ e, n / 256 ^ (3 - 1) % 256 = e := ⟨_, rfl⟩
  rw [he1] at HPR p1 y1
  clear he1
  have HD1 := Lib.hid (fun w => rdec_c e1 w p1)
  have hz1 : (itoaT e1).size ≤ 3 := (by decide +kernel : ∀ x, x < 256 → (itoaT x).size ≤ 3) e1 p1
  have hw1 : IntKind.i64.wrap (e1 : Int) = e1 := IntWalk.i64_in _ (by omega)
  obtain ⟨D1, hD1⟩ : ∃ D, itoaT e1 = D := ⟨_, rfl⟩
  rw [hD1] at HPR HD1 hz1
  clear hD1
  obtain ⟨e2, he2⟩ : ∃ e, n / 256 ^ (3 - 2) % 256 = e := ⟨_, rfl⟩
  rw [he2] at HPR p2 y2
  clear he2
  have HD2 := Lib.hid (fun w => rdec_c e2 w p2)
  have hz2 : (itoaT e2).size ≤ 3 := (by decide +kernel : ∀ x, x < 256 → (itoaT x).size ≤ 3) e2 p2
  have hw2 : IntKind.i64.wrap (e2 : Int) = e2 := IntWalk.i64_in _ (by omega)
  obtain ⟨D2, hD2⟩ : ∃ D, itoaT e2 = D := ⟨_, rfl⟩
  rw [hD2] at HPR HD2 hz2
  clear hD2
  obtain ⟨e3, he3⟩ : ∃ e, n / 256 ^ (3 - 3) % 256 = e := ⟨_, rfl⟩
  rw [he3] at HPR p3 y3
  clear he3
  have HD3 := Lib.hid (fun w => rdec_c e3 w p3)
  have hz3 : (itoaT e3).size ≤ 3 := (by decide +kernel : ∀ x, x < 256 → (itoaT x).size ≤ 3) e3 p3
  have hw3 : IntKind.i64.wrap (e3 : Int) = e3 := IntWalk.i64_in _ (by omega)
  obtain ⟨D3, hD3⟩ : ∃ D, itoaT e3 = D := ⟨_, rfl⟩
  rw [hD3] at HPR HD3 hz3
  clear hD3
  have hc1 : ∀ w, (Op.stringOp .add D0 ⟨#[46]⟩).run Tryz.prog w = .ok (.string (D0 ++ ⟨#[46]⟩)) w := fun w => run_string_add w _ _ (by omega) (by decide)
  have hs1 : (D0 ++ (⟨#[46]⟩ : ByteArray)).size ≤ 4 := by rw [ByteArray.size_append]; show D0.size + 1 ≤ 4; omega
  have hc2 : ∀ w, (Op.stringOp .add (D0 ++ ⟨#[46]⟩) D1).run Tryz.prog w = .ok (.string (D0 ++ ⟨#[46]⟩ ++ D1)) w := fun w => run_string_add w _ _ (by omega) (by omega)
  have hs2 : (D0 ++ (⟨#[46]⟩ : ByteArray) ++ D1).size ≤ 7 := by rw [ByteArray.size_append]; omega
  have hc3 : ∀ w, (Op.stringOp .add (D0 ++ ⟨#[46]⟩ ++ D1) ⟨#[46]⟩).run Tryz.prog w = .ok (.string (D0 ++ ⟨#[46]⟩ ++ D1 ++ ⟨#[46]⟩)) w := fun w => run_string_add w _ _ (by omega) (by decide)
  have hs3 : (D0 ++ (⟨#[46]⟩ : ByteArray) ++ D1 ++ (⟨#[46]⟩ : ByteArray)).size ≤ 8 := by rw [ByteArray.size_append]; show _ + 1 ≤ 8; omega
  have hc4 : ∀ w, (Op.stringOp .add (D0 ++ ⟨#[46]⟩ ++ D1 ++ ⟨#[46]⟩) D2).run Tryz.prog w = .ok (.string (D0 ++ ⟨#[46]⟩ ++ D1 ++ ⟨#[46]⟩ ++ D2)) w := fun w => run_string_add w _ _ (by omega) (by omega)
  have hs4 : (D0 ++ (⟨#[46]⟩ : ByteArray) ++ D1 ++ (⟨#[46]⟩ : ByteArray) ++ D2).size ≤ 11 := by rw [ByteArray.size_append]; omega
  have hc5 : ∀ w, (Op.stringOp .add (D0 ++ ⟨#[46]⟩ ++ D1 ++ ⟨#[46]⟩ ++ D2) ⟨#[46]⟩).run Tryz.prog w = .ok (.string (D0 ++ ⟨#[46]⟩ ++ D1 ++ ⟨#[46]⟩ ++ D2 ++ ⟨#[46]⟩)) w := fun w => run_string_add w _ _ (by omega) (by decide)
  have hs5 : (D0 ++ (⟨#[46]⟩ : ByteArray) ++ D1 ++ (⟨#[46]⟩ : ByteArray) ++ D2 ++ (⟨#[46]⟩ : ByteArray)).size ≤ 12 := by rw [ByteArray.size_append]; show _ + 1 ≤ 12; omega
  have hc6 : ∀ w, (Op.stringOp .add (D0 ++ ⟨#[46]⟩ ++ D1 ++ ⟨#[46]⟩ ++ D2 ++ ⟨#[46]⟩) D3).run Tryz.prog w = .ok (.string (D0 ++ ⟨#[46]⟩ ++ D1 ++ ⟨#[46]⟩ ++ D2 ++ ⟨#[46]⟩ ++ D3)) w := fun w => run_string_add w _ _ (by omega) (by omega)
  have hks : ∀ w', Below w2.heap.size w2 w' → (w'.cell? ⟨gb, 0, none⟩ = some (.int .u8 (e0 : Nat)) ∧ w'.cell? ⟨gb, 1, none⟩ = some (.int .u8 (e1 : Nat)) ∧ w'.cell? ⟨gb, 2, none⟩ = some (.int .u8 (e2 : Nat)) ∧ w'.cell? ⟨gb, 3, none⟩ = some (.int .u8 (e3 : Nat))) ∧ Below w2.heap.size w2 w' := fun w' h =>
    ⟨⟨(h.cell (p := ⟨gb, 0, none⟩) q2).trans y0, (h.cell (p := ⟨gb, 1, none⟩) q2).trans y1, (h.cell (p := ⟨gb, 2, none⟩) q2).trans y2, (h.cell (p := ⟨gb, 3, none⟩) q2).trans y3⟩, h⟩
  have HKS := Lib.hid hks
  clear hks
  go_wp2_with fail
  refine wp_region_held_drew (S := fun w' => (w'.cell? ⟨gb, 0, none⟩ = some (.int .u8 (e0 : Nat)) ∧ w'.cell? ⟨gb, 1, none⟩ = some (.int .u8 (e1 : Nat)) ∧ w'.cell? ⟨gb, 2, none⟩ = some (.int .u8 (e2 : Nat)) ∧ w'.cell? ⟨gb, 3, none⟩ = some (.int .u8 (e3 : Nat))) ∧ Below w2.heap.size w2 w') (by kernel_rfl) ?_ (fun hHeld => ?_)
  · exact HKS.out _ bl_
  refine take_q (i := 0) (v := ?_) rfl (by kernel_rfl) (by kernel_rfl) (by kernel_rfl) (fun _ _ _ h => h) (Or.inl ⟨by rfl, ?_⟩) (by assumption) ?_
  rotate_left
  · intro w hSw; (try dsimp only at hSw); go_simp; (try simp only [HDEC.out]); (try simp only [HDEC2.out]); try with_reducible rfl
  try simp only [Act.put, List.setIfInBounds_toArray, List.set_cons_zero, List.set_cons_succ]
  refine take_q (i := 1) (v := ?_) rfl (by kernel_rfl) (by kernel_rfl) (by kernel_rfl) (fun _ _ _ h => h) (Or.inl ⟨by rfl, ?_⟩) (by assumption) ?_
  rotate_left
  · intro w hSw; (try dsimp only at hSw); go_simp; (try simp only [HDEC.out]); (try simp only [HDEC2.out]); try with_reducible rfl
  try simp only [Act.put, List.setIfInBounds_toArray, List.set_cons_zero, List.set_cons_succ]
  refine take_q (i := 2) (v := ?_) rfl (by kernel_rfl) (by kernel_rfl) (by kernel_rfl) (fun _ _ _ h => h) (Or.inl ⟨by rfl, ?_⟩) (by assumption) ?_
  rotate_left
  · intro w hSw; (try dsimp only at hSw); go_simp; (try simp only [HDEC.out]); (try simp only [HDEC2.out]); try with_reducible rfl
  try simp only [Act.put, List.setIfInBounds_toArray, List.set_cons_zero, List.set_cons_succ]
  refine take_q (i := 3) (v := ?_) rfl (by kernel_rfl) (by kernel_rfl) (by kernel_rfl) (fun _ _ _ h => h) (Or.inl ⟨by rfl, ?_⟩) (by assumption) ?_
  rotate_left
  · intro w hSw; (try dsimp only at hSw); go_simp; (try simp only [HDEC.out]); (try simp only [HDEC2.out]); try with_reducible rfl
  try simp only [Act.put, List.setIfInBounds_toArray, List.set_cons_zero, List.set_cons_succ]
  refine take_q (i := 6) (v := ?_) rfl (by kernel_rfl) (by kernel_rfl) (by kernel_rfl) (fun _ _ _ h => h) (Or.inl ⟨by rfl, ?_⟩) (by assumption) ?_
  rotate_left
  · intro w hSw; (try dsimp only at hSw); go_simp; (try simp only [HDEC.out]); (try simp only [HDEC2.out]); try with_reducible rfl
  try simp only [Act.put, List.setIfInBounds_toArray, List.set_cons_zero, List.set_cons_succ]
  refine take_q (i := 7) (v := ?_) rfl (by kernel_rfl) (by kernel_rfl) (by kernel_rfl) (fun _ _ _ h => h) (Or.inl ⟨by rfl, ?_⟩) (by assumption) ?_
  rotate_left
  · intro w hSw; (try dsimp only at hSw); go_simp; (try simp only [HDEC.out]); (try simp only [HDEC2.out]); try with_reducible rfl
  try simp only [Act.put, List.setIfInBounds_toArray, List.set_cons_zero, List.set_cons_succ]
  refine take_q (i := 8) (v := ?_) rfl (by kernel_rfl) (by kernel_rfl) (by kernel_rfl) (fun _ _ _ h => h) (Or.inl ⟨by rfl, ?_⟩) (by assumption) ?_
  rotate_left
  · intro w hSw; (try dsimp only at hSw); go_simp; (try simp only [HDEC.out]); (try simp only [HDEC2.out]); try with_reducible rfl
  try simp only [Act.put, List.setIfInBounds_toArray, List.set_cons_zero, List.set_cons_succ]
  refine take_q (i := 9) (v := ?_) rfl (by kernel_rfl) (by kernel_rfl) (by kernel_rfl) (fun _ _ _ h => h) (Or.inl ⟨by rfl, ?_⟩) (by assumption) ?_
  rotate_left
  · intro w hSw; (try dsimp only at hSw); go_simp; (try simp only [HDEC.out]); (try simp only [HDEC2.out]); try with_reducible rfl
  try simp only [Act.put, List.setIfInBounds_toArray, List.set_cons_zero, List.set_cons_succ]
  refine take_q (i := 13) (v := ?_) rfl (by kernel_rfl) (by kernel_rfl) (by kernel_rfl) (fun _ _ _ h => h) (Or.inl ⟨by rfl, ?_⟩) (by assumption) ?_
  rotate_left
  · intro w hSw; (try dsimp only at hSw); go_simp; (try simp only [HDEC.out]); (try simp only [HDEC2.out]); try with_reducible rfl
  try simp only [Act.put, List.setIfInBounds_toArray, List.set_cons_zero, List.set_cons_succ]
  refine take_q (i := 14) (v := ?_) rfl (by kernel_rfl) (by kernel_rfl) (by kernel_rfl) (fun _ _ _ h => h) (Or.inl ⟨by rfl, ?_⟩) (by assumption) ?_
  rotate_left
  · intro w hSw; (try dsimp only at hSw); go_simp; (try simp only [HDEC.out]); (try simp only [HDEC2.out]); try with_reducible rfl
  try simp only [Act.put, List.setIfInBounds_toArray, List.set_cons_zero, List.set_cons_succ]
  refine take_q (i := 15) (v := ?_) rfl (by kernel_rfl) (by kernel_rfl) (by kernel_rfl) (fun _ _ _ h => h) (Or.inl ⟨by rfl, ?_⟩) (by assumption) ?_
  rotate_left
  · intro w hSw; (try dsimp only at hSw); go_simp; (try simp only [HDEC.out]); (try simp only [HDEC2.out]); try with_reducible rfl
  try simp only [Act.put, List.setIfInBounds_toArray, List.set_cons_zero, List.set_cons_succ]
  refine take_q (i := 16) (v := ?_) rfl (by kernel_rfl) (by kernel_rfl) (by kernel_rfl) (fun _ _ _ h => h) (Or.inl ⟨by rfl, ?_⟩) (by assumption) ?_
  rotate_left
  · intro w hSw; (try dsimp only at hSw); go_simp; (try simp only [HDEC.out]); (try simp only [HDEC2.out]); try with_reducible rfl
  try simp only [Act.put, List.setIfInBounds_toArray, List.set_cons_zero, List.set_cons_succ]
  refine take_q (i := 20) (v := ?_) rfl (by kernel_rfl) (by kernel_rfl) (by kernel_rfl) (fun _ _ _ h => h) (Or.inl ⟨by rfl, ?_⟩) (by assumption) ?_
  rotate_left
  · intro w hSw; (try dsimp only at hSw); go_simp; (try simp only [HDEC.out]); (try simp only [HDEC2.out]); try with_reducible rfl
  try simp only [Act.put, List.setIfInBounds_toArray, List.set_cons_zero, List.set_cons_succ]
  refine take_q (i := 21) (v := ?_) rfl (by kernel_rfl) (by kernel_rfl) (by kernel_rfl) (fun _ _ _ h => h) (Or.inl ⟨by rfl, ?_⟩) (by assumption) ?_
  rotate_left
  · intro w hSw; (try dsimp only at hSw); go_simp; (try simp only [HDEC.out]); (try simp only [HDEC2.out]); try with_reducible rfl
  try simp only [Act.put, List.setIfInBounds_toArray, List.set_cons_zero, List.set_cons_succ]
  refine take_q (i := 22) (v := ?_) rfl (by kernel_rfl) (by kernel_rfl) (by kernel_rfl) (fun _ _ _ h => h) (Or.inl ⟨by rfl, ?_⟩) (by assumption) ?_
  rotate_left
  · intro w hSw; (try dsimp only at hSw); go_simp; (try simp only [HDEC.out]); (try simp only [HDEC2.out]); try with_reducible rfl
  try simp only [Act.put, List.setIfInBounds_toArray, List.set_cons_zero, List.set_cons_succ]
  refine take_q (i := 23) (v := ?_) rfl (by kernel_rfl) (by kernel_rfl) (by kernel_rfl) (fun _ _ _ h => h) (Or.inl ⟨by rfl, ?_⟩) (by assumption) ?_
  rotate_left
  · intro w hSw; (try dsimp only at hSw); go_simp; (try simp only [HDEC.out]); (try simp only [HDEC2.out]); try with_reducible rfl
  try simp only [Act.put, List.setIfInBounds_toArray, List.set_cons_zero, List.set_cons_succ]
  refine wpAnyH_ready (rs := [4]) (by kernel_rfl) (by simp) ?_
  refine cons_q rfl (fun K hK => ?_) AllReadyH.nil
  go_simp
  with_reducible refine (HD0.out _).mono ?_; rintro e v0 ⟨rfl, hc_0⟩
  refine hK.out _ _ ?_ (fun hHeld => ?_)
  · exact HKS.out _ bl_
  clear hK K
  try simp only [Act.put, List.setIfInBounds_toArray, List.set_cons_zero, List.set_cons_succ]
  refine take_q (i := 5) (v := ?_) rfl (by kernel_rfl) (by kernel_rfl) (by kernel_rfl) (fun _ _ _ h => h) (Or.inl ⟨by rfl, ?_⟩) (by assumption) ?_
  rotate_left
  · intro w hSw; (try dsimp only at hSw); go_simp; (try simp only [HDEC.out]); (try simp only [HDEC2.out]); try with_reducible rfl
  try simp only [Act.put, List.setIfInBounds_toArray, List.set_cons_zero, List.set_cons_succ]
  refine wpAnyH_ready (rs := [10]) (by kernel_rfl) (by simp) ?_
  refine cons_q rfl (fun K hK => ?_) AllReadyH.nil
  go_simp
  with_reducible refine (HD1.out _).mono ?_; rintro e v1 ⟨rfl, hc_1⟩
  refine hK.out _ _ ?_ (fun hHeld => ?_)
  · exact HKS.out _ bl_
  clear hK K
  try simp only [Act.put, List.setIfInBounds_toArray, List.set_cons_zero, List.set_cons_succ]
  refine take_q (i := 11) (v := ?_) rfl (by kernel_rfl) (by kernel_rfl) (by kernel_rfl) (fun _ _ _ h => h) (Or.inl ⟨by rfl, ?_⟩) (by assumption) ?_
  rotate_left
  · intro w hSw; (try dsimp only at hSw); go_simp; (try simp only [HDEC.out]); (try simp only [HDEC2.out]); try with_reducible rfl
  try simp only [Act.put, List.setIfInBounds_toArray, List.set_cons_zero, List.set_cons_succ]
  refine take_q (i := 12) (v := ?_) rfl (by kernel_rfl) (by kernel_rfl) (by kernel_rfl) (fun _ _ _ h => h) (Or.inl ⟨by rfl, ?_⟩) (by assumption) ?_
  rotate_left
  · intro w hSw; (try dsimp only at hSw); go_simp; (try simp only [HDEC.out]); (try simp only [HDEC2.out]); try with_reducible rfl
  try simp only [Act.put, List.setIfInBounds_toArray, List.set_cons_zero, List.set_cons_succ]
  refine wpAnyH_ready (rs := [17]) (by kernel_rfl) (by simp) ?_
  refine cons_q rfl (fun K hK => ?_) AllReadyH.nil
  go_simp
  with_reducible refine (HD2.out _).mono ?_; rintro e v2 ⟨rfl, hc_2⟩
  refine hK.out _ _ ?_ (fun hHeld => ?_)
  · exact HKS.out _ bl_
  clear hK K
  try simp only [Act.put, List.setIfInBounds_toArray, List.set_cons_zero, List.set_cons_succ]
  refine take_q (i := 18) (v := ?_) rfl (by kernel_rfl) (by kernel_rfl) (by kernel_rfl) (fun _ _ _ h => h) (Or.inl ⟨by rfl, ?_⟩) (by assumption) ?_
  rotate_left
  · intro w hSw; (try dsimp only at hSw); go_simp; (try simp only [HDEC.out]); (try simp only [HDEC2.out]); try with_reducible rfl
  try simp only [Act.put, List.setIfInBounds_toArray, List.set_cons_zero, List.set_cons_succ]
  refine take_q (i := 19) (v := ?_) rfl (by kernel_rfl) (by kernel_rfl) (by kernel_rfl) (fun _ _ _ h => h) (Or.inl ⟨by rfl, ?_⟩) (by assumption) ?_
  rotate_left
  · intro w hSw; (try dsimp only at hSw); go_simp; (try simp only [HDEC.out]); (try simp only [HDEC2.out]); try with_reducible rfl
  try simp only [Act.put, List.setIfInBounds_toArray, List.set_cons_zero, List.set_cons_succ]
  refine wpAnyH_ready (rs := [24]) (by kernel_rfl) (by simp) ?_
  refine cons_q rfl (fun K hK => ?_) AllReadyH.nil
  go_simp
  with_reducible refine (HD3.out _).mono ?_; rintro e v3 ⟨rfl, hc_3⟩
  refine hK.out _ _ ?_ (fun hHeld => ?_)
  · exact HKS.out _ bl_
  clear hK K
  try simp only [Act.put, List.setIfInBounds_toArray, List.set_cons_zero, List.set_cons_succ]
  refine take_q (i := 25) (v := ?_) rfl (by kernel_rfl) (by kernel_rfl) (by kernel_rfl) (fun _ _ _ h => h) (Or.inl ⟨by rfl, ?_⟩) (by assumption) ?_
  rotate_left
  · intro w hSw; (try dsimp only at hSw); go_simp; (try simp only [HDEC.out]); (try simp only [HDEC2.out]); try with_reducible rfl
  try simp only [Act.put, List.setIfInBounds_toArray, List.set_cons_zero, List.set_cons_succ]
  refine take_q (i := 26) (v := ?_) rfl (by kernel_rfl) (by kernel_rfl) (by kernel_rfl) (fun _ _ _ h => h) (Or.inl ⟨by rfl, ?_⟩) (by assumption) ?_
  rotate_left
  · intro w hSw; (try dsimp only at hSw); go_simp; (try simp only [HDEC.out]); (try simp only [HDEC2.out]); try with_reducible rfl
  try simp only [Act.put, List.setIfInBounds_toArray, List.set_cons_zero, List.set_cons_succ]
  refine wpAnyH_done (by kernel_rfl) ?_ _
  go_wp2_with fail
  go_ret
  exact ⟨by rw [HPR.out]; rfl, bl_trans hbel hHeld.2⟩
/-- the reference's text of any address is the program's -/
theorem rprint_c (v : Bool) (n : Nat) (w : World) (hn : n < 340282366920938463463374607431768211456) :
    Calls Tryz.prog 76 #[AddrV v n] w fun e w' => e = .returned (.string ⟨(printA v n).toArray⟩) ∧ Below w.heap.size w w' := by
  unfold printA
  by_cases hr : rightB v n = true
  · rw [if_pos hr]
    cases v
    · rw [if_neg (by simp)]; exact rprint4_c n w (right_false hr)
    · rw [if_pos rfl, ← print_alike (grps_len n)]; exact rprint6_c n w hn
  · rw [if_neg hr]
    exact rprint_no v n w hn (by simpa using hr)
end Go.Proofs.YtgdgklibilddgaaGreatDoor

namespace Go.Proofs.YtgdgklibilddgaaGreatDoor
open Go.RowKit

def addrP : Option (Bool × Nat) → Bool × Nat × Int
  | some (v, n) => (v, n, 0)
  | none => (false, 0, 4)
def platbookref02_Parse.f (a0 : ByteArray) : Option (Bool × Int × Int × Int) := if decide (a0.size ≤ 1000000) = true then some ((addrP (parseA (bts a0))).1, hi (addrP (parseA (bts a0))).2.1, lo (addrP (parseA (bts a0))).2.1, (addrP (parseA (bts a0))).2.2) else none
theorem platbookref02_Parse.calls (a0 : ByteArray) (r1 : Bool) (r2 r3 r4 : Int) (w : World) (h : platbookref02_Parse.f a0 = some (r1, r2, r3, r4)) :
    Calls Tryz.prog 75 #[.string a0] w fun e w' => e = .returned (.tuple #[.agg #[.bool r1, .int .u64 r2, .int .u64 r3], .int .i64 r4]) ∧ Below w.heap.size w w' := by
  unfold platbookref02_Parse.f at h
  obtain ⟨hg, h⟩ := some_if h
  simp only [Prod.mk.injEq] at h
  obtain ⟨rfl, rfl, rfl, rfl⟩ := h
  have := rparse_c a0 w (of_decide_eq_true hg)
  cases hP : parseA (bts a0) with
  | none => rw [hP] at this; exact this
  | some x => obtain ⟨v, n⟩ := x; rw [hP] at this; exact this
def platbookref02_Print.f (a0_0 : Bool) (a0_1 a0_2 : Int) : Option ByteArray := if okW a0_1 a0_2 = true then some (⟨(printA a0_0 (num a0_1 a0_2)).toArray⟩ : ByteArray) else none
theorem platbookref02_Print.calls (a0_0 : Bool) (a0_1 a0_2 : Int) (r : ByteArray) (w : World) (h : platbookref02_Print.f a0_0 a0_1 a0_2 = some r) :
    Calls Tryz.prog 76 #[.agg #[.bool a0_0, .int .u64 a0_1, .int .u64 a0_2]] w fun e w' => e = .returned (.string r) ∧ Below w.heap.size w w' := by
  unfold platbookref02_Print.f at h
  obtain ⟨hg, h⟩ := some_if h
  subst h
  rw [okW_adr hg]
  exact rprint_c a0_0 (num a0_1 a0_2) w (okW_lt hg)
end Go.Proofs.YtgdgklibilddgaaGreatDoor

namespace Go.Proofs.YtgdgklibilddgaaGreatDoor
open Go.RowKit Go.Proofs.YtgdgklibilddgaaGreatDoorW.PrintWords Go.Proofs.YtgdgklibilddgaaGreatDoorW.PrintLast

/-- a block that is known, behind steps that leave it -/
theorem pk_ {w W : World} {g : Nat} {o : Obj} (h : Aside0 (w.heap[g]? = some o)) (k : w.heap[g]? = some o → W.heap[g]? = some o := by intro h_; (with_reducible repeat (first | refine blk_drewN ?_ _ | refine blk_drew ?_ | refine blk_alloc ?_ _)); exact h_) : W.heap[g]? = some o := k h.out
/-- what was there at the beginning, behind steps that leave it -/
theorem pb_ {w0 w W : World} (h : Aside0 (Below w0.heap.size w0 w)) (k : Below w0.heap.size w0 w → Below w0.heap.size w0 W := by intro h_; repeat (first | (with_reducible first | exact h_ | apply below_alloc | apply pw_below_drewN | apply below_drew1 | (refine below_set ?_ (Aside0.out ?_); rotate_left; assumption)) | exact h_)) : Below w0.heap.size w0 W := k h.out
theorem pw_ {w W : World} {g : Nat} {o : Obj} (h : w.heap[g]? = some o) (k : w.heap[g]? = some o → W.heap[g]? = some o := by intro h_; (with_reducible repeat (first | refine blk_drewN ?_ _ | refine blk_drew ?_ | refine blk_alloc ?_ _)); exact h_) : W.heap[g]? = some o := k h
theorem bb_ {w W w2 : World} {g : Nat} {o : Obj} (h : Aside0 (w.heap[g]? = some o)) (hb : Below W.heap.size W w2) (k : w.heap[g]? = some o → W.heap[g]? = some o := by intro h_; (with_reducible repeat (first | refine blk_drewN ?_ _ | refine blk_drew ?_ | refine blk_alloc ?_ _)); exact h_) : Aside0 (w2.heap[g]? = some o) := ⟨blk_below (k h.out) hb⟩
theorem bs_ {w0 w W w2 : World} (h : Aside0 (Below w0.heap.size w0 w)) (hb : Below W.heap.size W w2) (k : Below w0.heap.size w0 w → Below w0.heap.size w0 W := by intro h_; repeat (first | (with_reducible first | exact h_ | apply below_alloc | apply pw_below_drewN | apply below_drew1 | (refine below_set ?_ (Aside0.out ?_); rotate_left; assumption)) | exact h_)) : Aside0 (Below w0.heap.size w0 w2) := ⟨below_step (k h.out) hb⟩
theorem gw_ {w0 w W : World} {g : Nat} (h : Aside0 (Below w0.heap.size w0 w)) (hg : g = W.heap.size) (k : Below w0.heap.size w0 w → Below w0.heap.size w0 W := by intro h_; repeat (first | (with_reducible first | exact h_ | apply below_alloc | apply pw_below_drewN | apply below_drew1 | (refine below_set ?_ (Aside0.out ?_); rotate_left; assumption)) | exact h_)) : Aside0 (w0.heap.size ≤ g) := ⟨hg ▸ below_size (k h.out)⟩
theorem nl_ {w W : World} {g g2 : Nat} {o : Obj} (h : Aside0 (w.heap[g]? = some o)) (hg : g2 = W.heap.size) (k : w.heap[g]? = some o → W.heap[g]? = some o := by intro h_; (with_reducible repeat (first | refine blk_drewN ?_ _ | refine blk_drew ?_ | refine blk_alloc ?_ _)); exact h_) : Aside0 (g ≠ g2) := ⟨by rw [hg]; exact Nat.ne_of_lt (blk_lt (k h.out))⟩
theorem ng_ {w W : World} {g g2 : Nat} {o : Obj} (h : Aside0 (w.heap[g]? = some o)) (hg : g2 = W.heap.size) (k : w.heap[g]? = some o → W.heap[g]? = some o := by intro h_; (with_reducible repeat (first | refine blk_drewN ?_ _ | refine blk_drew ?_ | refine blk_alloc ?_ _)); exact h_) : Aside0 (g2 ≠ g) := ⟨by rw [hg]; exact Nat.ne_of_gt (blk_lt (k h.out))⟩
theorem c2_ {w : World} {g : Nat} {t : TypeId} {a b : Value} (h : Aside0 (w.heap[g]? = some (.cells #[a, b] t (0, 0)))) : w.cell? ⟨g, 0, none⟩ = some a ∧ w.cell? ⟨g, 1, none⟩ = some b ∧ w.frozen? ⟨g, 0, none⟩ = false ∧ w.frozen? ⟨g, 1, none⟩ = false :=
  ⟨(blk_cell h.out 0).trans rfl, (blk_cell h.out 1).trans rfl, blk_frozen h.out 0, blk_frozen h.out 1⟩
theorem c3_ {w : World} {g : Nat} {t : TypeId} {a b c : Value} (h : Aside0 (w.heap[g]? = some (.cells #[a, b, c] t (0, 0)))) : w.cell? ⟨g, 0, none⟩ = some a ∧ w.cell? ⟨g, 1, none⟩ = some b ∧ w.cell? ⟨g, 2, none⟩ = some c ∧ w.frozen? ⟨g, 0, none⟩ = false ∧ w.frozen? ⟨g, 1, none⟩ = false ∧ w.frozen? ⟨g, 2, none⟩ = false :=
  ⟨(blk_cell h.out 0).trans rfl, (blk_cell h.out 1).trans rfl, (blk_cell h.out 2).trans rfl, blk_frozen h.out 0, blk_frozen h.out 1, blk_frozen h.out 2⟩
theorem c4_ {w : World} {g : Nat} {t : TypeId} {a b c d : Value} (h : Aside0 (w.heap[g]? = some (.cells #[a, b, c, d] t (0, 0)))) : w.cell? ⟨g, 0, none⟩ = some a ∧ w.cell? ⟨g, 1, none⟩ = some b ∧ w.cell? ⟨g, 2, none⟩ = some c ∧ w.cell? ⟨g, 3, none⟩ = some d ∧ w.frozen? ⟨g, 0, none⟩ = false ∧ w.frozen? ⟨g, 1, none⟩ = false ∧ w.frozen? ⟨g, 2, none⟩ = false ∧ w.frozen? ⟨g, 3, none⟩ = false :=
  ⟨(blk_cell h.out 0).trans rfl, (blk_cell h.out 1).trans rfl, (blk_cell h.out 2).trans rfl, (blk_cell h.out 3).trans rfl, blk_frozen h.out 0, blk_frozen h.out 1, blk_frozen h.out 2, blk_frozen h.out 3⟩
section
variable {P : Program} {ops : Array Oper} {Q : Exit → Act → World → Prop} {md : Region.Mode} {S : World → Prop} {ds : List Nat}
theorem gl_ {rest : List Oper} {oi : Oper} {a : Act} {w : World} (N : Option Tmp) {f : FuncId} {fn : Func} {xs : Array Operand} {ts : Array TypeId} (hf : P.funcs[f]? = some fn) (args : Array Value)
    (h : Calls P f args w fun e w' => ∃ v, e = .returned v ∧ wpList P ops Q rest (a.put N v) w')
    (hop : oi.op = .call { callee := .value (.func f), args := xs, argTypes := ts } := by rfl) (hargs : xs.map a.eval = args := by (try simp only [List.map_toArray, List.map_cons, List.map_nil]); first | done | rfl | (simp only [List.length_drop, List.length_take]; rfl))
    (hd : oi.dst = N := by rfl) (hg : oi.guard = none := by rfl) (hname : (fn.name == "runtime.NumGoroutine") = false := by kernel_rfl) (hb : fn.body.isSome = true := by rfl) : wpList P ops Q (oi :: rest) a w :=
  goesL_ N hd hg hf hname hb args hop hargs h
theorem gr_ {oi : Oper} {N : Option Tmp} {a : Act} {w : World} {K : Act → World → Prop} {f : FuncId} {fn : Func} {xs : Array Operand} {ts : Array TypeId} (hf : P.funcs[f]? = some fn) (args : Array Value)
    (h : Calls P f args w fun e w' => ∃ v, e = .returned v ∧ K (a.put N v) w')
    (hw : Region.wanted oi (yielded ops a.tmps) = true := by rfl) (hN : oi.dst = N := by rfl) (hop : oi.op = .call { callee := .value (.func f), args := xs, argTypes := ts } := by rfl) (hargs : xs.map a.eval = args := by (try simp only [List.map_toArray, List.map_cons, List.map_nil]); first | done | rfl | (simp only [List.length_drop, List.length_take]; rfl))
    (hname : (fn.name == "runtime.NumGoroutine") = false := by kernel_rfl) (hb : fn.body.isSome = true := by rfl) : if Region.wanted oi (yielded ops a.tmps) = true then Oper.wp P oi a w K Q else K (a.put N undef) w :=
  goes_ hf hname hb args hw hN hop hargs h
theorem bx_ {rest : List Oper} {o : Oper} {a : Act} {W : World} (N : Tmp) (cs : Array Value) (t : TypeId)
    (h : ∀ g, g = W.heap.size → ∀ w1, w1.heap[g]? = some (.cells cs t (0, 0)) → Below W.heap.size W w1 → wpList P ops Q rest (a.put o.dst (.pointer (some ⟨g, 0, none⟩))) w1)
    (hd : o.dst = some N := by rfl) (hgd : o.guard = none := by rfl) (hrun : (execOp a.eval o).run P W = .ok (.value (.pointer (some ⟨W.heap.size, 0, none⟩))) (W.alloc (.cells cs t (0, 0))) := by first | (go_simp; done) | (go_simp; rfl)) : wpList P ops Q (o :: rest) a W :=
  box_event hgd hd hrun h
/-- what has come up, as a number's bits -/
def bm_ (n m : Nat) : Array Bool := ((List.range n).map fun i => m.testBit i).toArray
theorem pu_ {T : Bool × List (List Nat × List Nat)} {oi : Oper} {v : Value} {fuel : Nat} {l : Array Bool} {a a' : Act} {w : World} (i : Nat) (N : Option Tmp) (l' : Array Bool) (hi : ops[i]? = some oi) (hT : Aside0 (rtab md ops = T))
    (hy : Region.wanted oi (yielded ops a.tmps) = true ∧ ∀ w, (execOp a.eval oi).run P w = .ok (.value v) w) (h : wpAnyLast P md ops Q S ds fuel l' a' w)
    (ha : a.put N v = a' := by simp only [Act.put, List.setIfInBounds_toArray, List.set_cons_zero, List.set_cons_succ, i64_w, i32_w]; rfl) (hN : oi.dst = N := by rfl) (hc : anyT T l.toList l'.toList i = true := by kernel_rfl)
    (hQ : ∀ c a w, Q (.panic c) (a.put oi.dst v) w → Q (.panic c) a w := by exact fun _ _ _ h => h) : wpAnyLast P md ops Q S ds (fuel + 1) l a w :=
  pure_ (i := i) (N := N) l' hi hN (any_of hT.out hc) hQ (.inl hy) ha h
theorem ta_ {T : Bool × List (List Nat × List Nat)} {B : List Nat} {oi : Oper} {v : Value} {fuel : Nat} {l : Array Bool} {a a' : Act} {w : World} (i : Nat) (N : Option Tmp) (l' : Array Bool) (hi : ops[i]? = some oi) (hT : Aside0 (rtab md ops = T)) (hB : Aside0 (waitsOk T.2 B = true))
    (hy : Region.wanted oi (yielded ops a.tmps) = true ∧ ∀ w, S w → (execOp a.eval oi).run P w = .ok (.value v) w) (hS : S w) (h : wpAnyLast P md ops Q S ds fuel l' a' w)
    (ha : a.put N v = a' := by simp only [Act.put, List.setIfInBounds_toArray, List.set_cons_zero, List.set_cons_succ, i64_w, i32_w]; rfl) (hN : oi.dst = N := by rfl) (hc : takeW T B ds l.toList l'.toList i = true := by kernel_rfl)
    (hQ : ∀ c a w, Q (.panic c) (a.put oi.dst v) w → Q (.panic c) a w := by exact fun _ _ _ h => h) : wpAnyLast P md ops Q S ds (fuel + 1) l a w :=
  take_ (i := i) (N := N) l' hi hN (take_ofW hT.out hB.out hc) hQ (.inl hy) hS ha h
end
theorem kc_ {w : World} {g : Nat} {t : TypeId} {cs : Array Value} {v : Value} (h : Aside0 (w.heap[g]? = some (.cells cs t (0, 0)))) (i : Nat) (hv : cs[i]? = some v := by rfl) : w.cell? ⟨g, i, none⟩ = some v := (blk_cell h.out i).trans hv
end Go.Proofs.YtgdgklibilddgaaGreatDoor

namespace Go.Proofs.YtgdgklibilddgaaGreatDoor.PPt
open Go.RowKit Go.Proofs.YtgdgklibilddgaaGreatDoorW.PrintWords Go.Proofs.YtgdgklibilddgaaGreatDoorW.PrintLast Go.Proofs.YtgdgklibilddgaaGreatDoorW.PrintMore
attribute [local go_sem] max2_int min2_int max_two min_two max_three min_three max_four min_four   -- for this text's walks alone



def errW : Option Int → Value
  | none => .nilIface
  | some c => .iface 0 (.int .i64 c)
theorem errW_none : errW none = .nilIface := rfl
theorem errW_some (c : Int) : errW (some c) = .iface 0 (.int .i64 c) := rfl

theorem info3 : (Tryz.prog.info? 3).map (fun i => (i.zero, i.size, i.bytes)) = some (some (.int .i64 0), 1, 8) := by kernel_rfl
theorem info5 : (Tryz.prog.info? 5).map (fun i => (i.zero, i.size, i.bytes)) = some (some (.int .u8 0), 1, 1) := by kernel_rfl
end Go.Proofs.YtgdgklibilddgaaGreatDoor.PPt

namespace Go.Proofs.YtgdgklibilddgaaGreatDoor.PPt
open Go.RowKit Go.Proofs.YtgdgklibilddgaaGreatDoorW.PrintWords Go.Proofs.YtgdgklibilddgaaGreatDoorW.PrintLast Go.Proofs.YtgdgklibilddgaaGreatDoorW.PrintMore
attribute [local go_sem] max2_int min2_int max_two min_two max_three min_three max_four min_four   -- for this text's walks alone

def prefix_Print.f (a0_0 : Bool) (a0_1 : Int) (a0_2 : Int) (a0_3 : Int) : Option (ByteArray) := (prefix_Right.f a0_0 a0_1 a0_2 a0_3).bind fun t102 => (if t102 = true then ((addr_Print.f a0_0 a0_1 a0_2).bind fun t103 => (if t103.size + 1 ≤ 9223372036854775807 then ((strconv_Itoa.f a0_3).bind fun t104 => (if (t103 ++ (⟨#[47]⟩ : ByteArray)).size + t104.size ≤ 9223372036854775807 then (some ((t103 ++ (⟨#[47]⟩ : ByteArray)) ++ t104)) else (none))) else (none))) else (some (⟨#[]⟩ : ByteArray)))
def prefix_Print.T3 : Bool × List (List Nat × List Nat) := (true, [([], []), ([0], [0]), ([1], [1]), ([2], [2]), ([], []), ([4], [4]), ([5, 2], [5]), ([3, 6], [3, 6]), ([7, 6, 0, 1, 2, 3, 4, 5, 6, 7], [7])])
def prefix_Print.B3 : List Nat := [0, 1, 3, 7, 0, 16, 55, 127, 255]
theorem prefix_Print.tab3 : rtab .any (opsOf Tryz.f27 3) = prefix_Print.T3 := by kernel_rfl
theorem prefix_Print.bits3 : waitsOk prefix_Print.T3.2 prefix_Print.B3 = true := by kernel_rfl
set_option maxHeartbeats 8000000 in
set_option maxRecDepth 100000 in
theorem prefix_Print.calls (a0_0 : Bool) (a0_1 : Int) (a0_2 : Int) (a0_3 : Int) (r : ByteArray) (w : World) (hG : Glob w) (h : prefix_Print.f a0_0 a0_1 a0_2 a0_3 = some r) :
  Calls Tryz.prog 27 #[.agg #[.bool a0_0, .int .u64 a0_1, .int .u64 a0_2, .int .i64 a0_3]] w fun e w' => e = .returned (.string r) ∧ Below w.heap.size w w' := by
 have hu38 := Tryz.underlying38
 have hu26 := Tryz.underlying26
 have HGLB := Aside0.mk hG
 clear hG
 have HB := Aside0.mk (Below.refl w.heap.size w)
 have H : ((prefix_Right.f a0_0 a0_1 a0_2 a0_3).bind fun t102 => (if t102 = true then ((addr_Print.f a0_0 a0_1 a0_2).bind fun t103 => (if t103.size + 1 ≤ 9223372036854775807 then ((strconv_Itoa.f a0_3).bind fun t104 => (if (t103 ++ (⟨#[47]⟩ : ByteArray)).size + t104.size ≤ 9223372036854775807 then (some ((t103 ++ (⟨#[47]⟩ : ByteArray)) ++ t104)) else (none))) else (none))) else (some (⟨#[]⟩ : ByteArray)))) = some r := h
 clear h
 replace H := Option.bind_eq_some_iff.mp H
 obtain ⟨t102, A20, H⟩ := H
 replace H : (if t102 = true then ((addr_Print.f a0_0 a0_1 a0_2).bind fun t103 => (if t103.size + 1 ≤ 9223372036854775807 then ((strconv_Itoa.f a0_3).bind fun t104 => (if (t103 ++ (⟨#[47]⟩ : ByteArray)).size + t104.size ≤ 9223372036854775807 then (some ((t103 ++ (⟨#[47]⟩ : ByteArray)) ++ t104)) else (none))) else (none))) else (some (⟨#[]⟩ : ByteArray))) = some r := H
 have A2 := Aside0.mk A20
 clear A20
 by_cases c3 : t102 = true
 ·
  subst c3
  rw [if_pos rfl] at H
  replace H := Option.bind_eq_some_iff.mp H
  obtain ⟨t103, A40, H⟩ := H
  replace H : (if t103.size + 1 ≤ 9223372036854775807 then ((strconv_Itoa.f a0_3).bind fun t104 => (if (t103 ++ (⟨#[47]⟩ : ByteArray)).size + t104.size ≤ 9223372036854775807 then (some ((t103 ++ (⟨#[47]⟩ : ByteArray)) ++ t104)) else (none))) else (none)) = some r := H
  have A4 := Aside0.mk A40
  clear A40
  by_cases c5 : t103.size + 1 ≤ 9223372036854775807
  ·
   rw [if_pos c5] at H
   have c5b0 := eq_true c5
   have c5b1 : decide (t103.size + 1 ≤ 9223372036854775807) = true := decide_eq_true c5
   try have c5b2 : (9223372036854775807 < t103.size + 1) = False := eq_false (Nat.not_lt.2 c5)
   replace H := Option.bind_eq_some_iff.mp H
   obtain ⟨t104, A60, H⟩ := H
   replace H : (if (t103 ++ (⟨#[47]⟩ : ByteArray)).size + t104.size ≤ 9223372036854775807 then (some ((t103 ++ (⟨#[47]⟩ : ByteArray)) ++ t104)) else (none)) = some r := H
   have A6 := Aside0.mk A60
   clear A60
   by_cases c7 : (t103 ++ (⟨#[47]⟩ : ByteArray)).size + t104.size ≤ 9223372036854775807
   ·
    rw [if_pos c7] at H
    have c7b0 := eq_true c7
    have c7b1 : decide ((t103 ++ (⟨#[47]⟩ : ByteArray)).size + t104.size ≤ 9223372036854775807) = true := decide_eq_true c7
    try have c7b2 : (9223372036854775807 < (t103 ++ (⟨#[47]⟩ : ByteArray)).size + t104.size) = False := eq_false (Nat.not_lt.2 c7)
    (try (have c7b3 := of_eq_false c7b2; simp only [ByteArray.size_append, show (⟨#[47]⟩ : ByteArray).size = 1 from rfl] at c7b3; replace c7b3 := eq_false c7b3))
    obtain rfl := Option.some.inj H
    go_enter Tryz.func27, Tryz.ntmps27
    try go_wp2_with (first | ((with_reducible refine gate_dst (N := 1) rfl ?_); refine bx_ 1 #[.bool a0_0, .int .u64 a0_1, .int .u64 a0_2, .int .i64 a0_3] 38 ?_; intro gb101 hg w8 hbox hb; have BK101 := Aside0.mk (hbox); have GW101 := gw_ HB hg; have GE101 := gw_ HB hg; replace HB := bs_ HB hb; clear hb hbox hg; obtain ⟨hcz9_0, hcz9_1, hcz9_2, hcz9_3, hfz9_0, hfz9_1, hfz9_2, hfz9_3⟩ := c4_ BK101) | ((with_reducible refine gate_callee (f := 36) rfl ?_); refine gl_ (some 4) Tryz.func36 #[.agg #[.bool a0_0, .int .u64 a0_1, .int .u64 a0_2, .int .i64 a0_3]] ?_; (with_reducible refine (prefix_Right.calls a0_0 a0_1 a0_2 a0_3 true _ A2.out).mono ?_); rintro e w10 ⟨rfl, hb⟩; refine ⟨_, rfl, ?_⟩; replace BK101 := bb_ BK101 hb; replace HB := bs_ HB hb; (try clear hb); (try clear hb2); (try clear hk); (try clear hi)))
    replace BK101 := Aside0.mk (blk_drew BK101.out)
    replace HB := Aside0.mk (below_drew1 HB.out)
    refine start_ (n := 9) (S := fun w' => w'.cell? ⟨gb101, 0, none⟩ = some (.bool a0_0) ∧ w'.cell? ⟨gb101, 1, none⟩ = some (.int .u64 a0_1) ∧ w'.cell? ⟨gb101, 2, none⟩ = some (.int .u64 a0_2) ∧ w'.cell? ⟨gb101, 3, none⟩ = some (.int .i64 a0_3)) (ds := []) (bm_ 9 0) (by kernel_rfl) rfl rfl ⟨kc_ BK101 0, kc_ BK101 1, kc_ BK101 2, kc_ BK101 3⟩ (fun hHeld => ?_); refine with_tabW prefix_Print.tab3 prefix_Print.bits3 (fun HT_ HW_ => ?_)
    generalize w10.drew = w11 at BK101 HB hHeld ⊢
    refine pu_ 0 (some 6) (bm_ 9 1) rfl HT_ ⟨by rfl, by intro w'; go_simp; with_reducible rfl⟩ ?_
    refine pu_ 4 (some 10) (bm_ 9 17) rfl HT_ ⟨by rfl, by intro w'; go_simp; with_reducible rfl⟩ ?_
    refine ta_ 1 (some 7) (bm_ 9 19) rfl HT_ HW_ ⟨by rfl, by rintro w' ⟨s0, s1, s2, s3⟩; go_simp; with_reducible rfl⟩ hHeld ?_
    refine ta_ 5 (some 11) (bm_ 9 51) rfl HT_ HW_ ⟨by rfl, by rintro w' ⟨s0, s1, s2, s3⟩; go_simp; with_reducible rfl⟩ hHeld ?_
    refine one_ (i := 2) (N := some 8) (bm_ 9 55) rfl rfl (one_of HT_.out (by kernel_rfl)) (by decide) (fun K hK => ?_)
    refine gr_ Tryz.func64 #[.agg #[.bool a0_0, .int .u64 a0_1, .int .u64 a0_2]] ?_
    with_reducible refine (addr_Print.calls a0_0 a0_1 a0_2 t103 _ ?side1 A4.out).mono ?_
    (case side1 => exact glob_keep HGLB.out (pb_ HB))
    rintro e w12 ⟨rfl, hb⟩
    refine ⟨_, rfl, ?_⟩
    replace BK101 := bb_ BK101 hb
    replace HB := bs_ HB hb
    (try clear hb)
    (try clear hb2)
    (try clear hk)
    (try clear hi)
    refine hK.out _ _ ⟨kc_ BK101 0, kc_ BK101 1, kc_ BK101 2, kc_ BK101 3⟩ (fun hHeld => ?_)
    clear hK K
    refine norm_ (a' := ?_) ?_ ?_
    rotate_left
    ·
     show Act.put _ (some 8) _ = _
     simp only [Act.put, List.setIfInBounds_toArray, List.set_cons_zero, List.set_cons_succ, i64_w, i32_w]
     rfl
    refine pu_ 3 (some 9) (bm_ 9 63) rfl HT_ ⟨by rfl, by intro w'; go_simp; with_reducible rfl⟩ ?_
    refine one_ (i := 6) (N := some 12) (bm_ 9 127) rfl rfl (one_of HT_.out (by kernel_rfl)) (by decide) (fun K hK => ?_)
    refine gr_ Tryz.func74 #[.int .i64 a0_3] ?_
    with_reducible refine (strconv_Itoa.calls a0_3 t104 _ ?side1 A6.out).mono ?_
    (case side1 => exact glob_keep HGLB.out (pb_ HB))
    rintro e w13 ⟨rfl, hb⟩
    refine ⟨_, rfl, ?_⟩
    replace BK101 := bb_ BK101 hb
    replace HB := bs_ HB hb
    (try clear hb)
    (try clear hb2)
    (try clear hk)
    (try clear hi)
    refine hK.out _ _ ⟨kc_ BK101 0, kc_ BK101 1, kc_ BK101 2, kc_ BK101 3⟩ (fun hHeld => ?_)
    clear hK K
    refine norm_ (a' := ?_) ?_ ?_
    rotate_left
    ·
     show Act.put _ (some 12) _ = _
     simp only [Act.put, List.setIfInBounds_toArray, List.set_cons_zero, List.set_cons_succ, i64_w, i32_w]
     rfl
    refine pu_ 7 (some 13) (bm_ 9 255) rfl HT_ ⟨by rfl, by intro w'; go_simp; with_reducible rfl⟩ ?_
    refine pu_ 8 (some 2) (bm_ 9 511) rfl HT_ ⟨by rfl, by intro w'; go_simp; with_reducible rfl⟩ ?_
    refine done_ (done_of HT_.out (by kernel_rfl)) ?_
    try go_wp2
    go_ret
    exact ⟨by first | rfl | (simp [errW_none, errW_some] <;> rfl) | (simp [*, errW_none, errW_some] <;> rfl), pb_ HB⟩
   ·
    rw [if_neg c7] at H
    exact absurd H (by simp)
  ·
   rw [if_neg c5] at H
   exact absurd H (by simp)
 ·
  replace c3 := Bool.eq_false_iff.mpr c3
  subst c3
  have H1 : (some (⟨#[]⟩ : ByteArray)) = some r := by rw [if_neg (show ¬ (false = true) by decide)] at H; exact H
  clear H
  have H := H1
  clear H1
  obtain rfl := Option.some.inj H
  go_enter Tryz.func27, Tryz.ntmps27
  go_wp2_with (first | ((with_reducible refine gate_dst (N := 1) rfl ?_); refine bx_ 1 #[.bool a0_0, .int .u64 a0_1, .int .u64 a0_2, .int .i64 a0_3] 38 ?_; intro gb101 hg w14 hbox hb; have BK101 := Aside0.mk (hbox); have GW101 := gw_ HB hg; have GE101 := gw_ HB hg; replace HB := bs_ HB hb; clear hb hbox hg; obtain ⟨hcz15_0, hcz15_1, hcz15_2, hcz15_3, hfz15_0, hfz15_1, hfz15_2, hfz15_3⟩ := c4_ BK101) | ((with_reducible refine gate_callee (f := 36) rfl ?_); refine gl_ (some 4) Tryz.func36 #[.agg #[.bool a0_0, .int .u64 a0_1, .int .u64 a0_2, .int .i64 a0_3]] ?_; (with_reducible refine (prefix_Right.calls a0_0 a0_1 a0_2 a0_3 false _ A2.out).mono ?_); rintro e w16 ⟨rfl, hb⟩; refine ⟨_, rfl, ?_⟩; replace BK101 := bb_ BK101 hb; replace HB := bs_ HB hb; (try clear hb); (try clear hb2); (try clear hk); (try clear hi)))
  go_ret
  exact ⟨by first | rfl | (simp [errW_none, errW_some] <;> rfl) | (simp [*, errW_none, errW_some] <;> rfl), pb_ HB⟩

def num_Of.f (a0 : Int) : Option (Int × Int) := some (0, a0)
set_option maxHeartbeats 8000000 in
set_option maxRecDepth 100000 in
theorem num_Of.calls (a0 : Int) (r1 : Int) (r2 : Int) (w : World) (h : num_Of.f a0 = some (r1, r2)) :
  Calls Tryz.prog 59 #[.int .u64 a0] w fun e w' => e = .returned (.agg #[.int .u64 r1, .int .u64 r2]) ∧ Below w.heap.size w w' := by
 have hu24 := Tryz.underlying24
 have HB := Aside0.mk (Below.refl w.heap.size w)
 have H : (some (0, a0)) = some (r1, r2) := h
 clear h
 simp only [Option.some.injEq, Prod.mk.injEq] at H
 obtain ⟨rfl, rfl⟩ := H
 go_enter Tryz.func59, Tryz.ntmps59
 go_wp2_with (first | ((with_reducible refine gate_dst (N := 2) rfl ?_); refine bx_ 2 #[.int .u64 0, .int .u64 0] 24 ?_; intro gb105 hg w2 hbox hb; have BK105 := Aside0.mk (hbox); have GW105 := gw_ HB hg; have GE105 := gw_ HB hg; replace HB := bs_ HB hb; clear hb hbox hg; obtain ⟨hcz3_0, hcz3_1, hfz3_0, hfz3_1⟩ := c2_ BK105))
 refine bodyPost_ret (results_cell_row rfl _ _ gb105 24 #[.int .u64 0, .int .u64 a0] (0, 0) _ rfl (by refine pw_ ?_; refine blk_put (cs := #[.int .u64 0, .int .u64 0]) ?_ 1 _ rfl; refine pw_ ?_; refine blk_put (cs := #[.int .u64 0, .int .u64 0]) ?_ 0 _ rfl; refine pw_ ?_; exact BK105.out) Tryz.underlying24 rfl (by kernel_rfl)) rfl ?_
 exact ⟨by first | rfl | (simp [errW_none, errW_some] <;> rfl) | (simp [*, errW_none, errW_some] <;> rfl), pb_ HB⟩

def prefix_Halves.f (a0_0 : Bool) (a0_1 : Int) (a0_2 : Int) (a0_3 : Int) : Option (Bool × Int × Int × Int × Bool × Int × Int × Int × Int) := (addr_Width.f a0_0 a0_1 a0_2).bind fun t109 => ((prefix_Right.f a0_0 a0_1 a0_2 a0_3).bind fun t110 => (if t110 = true then (if a0_3 = t109 then (some (false, 0, 0, 0, false, 0, 0, 0, 11)) else ((num_Of.f 1).bind fun bt113 => ((num_Shl.f bt113.1 bt113.2 (wrap64 (t109 - (wrap64 (a0_3 + 1))))).bind fun bt115 => ((num_Or.f a0_1 a0_2 bt115.1 bt115.2).bind fun bt117 => (some (a0_0, a0_1, a0_2, wrap64 (a0_3 + 1), a0_0, bt117.1, bt117.2, wrap64 (a0_3 + 1), 0)))))) else (some (false, 0, 0, 0, false, 0, 0, 0, 1))))
def prefix_Halves.T9 : Bool × List (List Nat × List Nat) := (true, [([], []), ([0], [0]), ([1], [1]), ([], []), ([], []), ([], []), ([5], [5]), ([4, 6], [4, 6]), ([3, 7, 3], [3, 7]), ([2, 8, 8], [2, 8]), ([0, 1, 2, 3, 4, 5, 6, 7, 8, 9], []), ([10, 0, 1, 2, 3, 4, 5, 6, 7, 8, 9], [10]), ([11, 9, 9, 0, 1, 2, 3, 4, 5, 6, 7, 8, 9], [9, 11])])
def prefix_Halves.B9 : List Nat := [0, 1, 3, 0, 0, 0, 32, 112, 248, 511, 1023, 2047, 4095]
theorem prefix_Halves.tab9 : rtab .any (opsOf Tryz.f33 9) = prefix_Halves.T9 := by kernel_rfl
theorem prefix_Halves.bits9 : waitsOk prefix_Halves.T9.2 prefix_Halves.B9 = true := by kernel_rfl
set_option maxHeartbeats 8000000 in
set_option maxRecDepth 100000 in
theorem prefix_Halves.calls (a0_0 : Bool) (a0_1 : Int) (a0_2 : Int) (a0_3 : Int) (r1 : Bool) (r2 : Int) (r3 : Int) (r4 : Int) (r5 : Bool) (r6 : Int) (r7 : Int) (r8 : Int) (r9 : Int) (w : World) (h : prefix_Halves.f a0_0 a0_1 a0_2 a0_3 = some (r1, r2, r3, r4, r5, r6, r7, r8, r9)) :
  Calls Tryz.prog 33 #[.agg #[.bool a0_0, .int .u64 a0_1, .int .u64 a0_2, .int .i64 a0_3]] w fun e w' => e = .returned (.tuple #[.agg #[.bool r1, .int .u64 r2, .int .u64 r3, .int .i64 r4], .agg #[.bool r5, .int .u64 r6, .int .u64 r7, .int .i64 r8], .int .i64 r9]) ∧ Below w.heap.size w w' := by
 have hu38 := Tryz.underlying38
 have hu26 := Tryz.underlying26
 have hu24 := Tryz.underlying24
 have HB := Aside0.mk (Below.refl w.heap.size w)
 have H : ((addr_Width.f a0_0 a0_1 a0_2).bind fun t109 => ((prefix_Right.f a0_0 a0_1 a0_2 a0_3).bind fun t110 => (if t110 = true then (if a0_3 = t109 then (some (false, 0, 0, 0, false, 0, 0, 0, 11)) else ((num_Of.f 1).bind fun bt113 => ((num_Shl.f bt113.1 bt113.2 (wrap64 (t109 - (wrap64 (a0_3 + 1))))).bind fun bt115 => ((num_Or.f a0_1 a0_2 bt115.1 bt115.2).bind fun bt117 => (some (a0_0, a0_1, a0_2, wrap64 (a0_3 + 1), a0_0, bt117.1, bt117.2, wrap64 (a0_3 + 1), 0)))))) else (some (false, 0, 0, 0, false, 0, 0, 0, 1))))) = some (r1, r2, r3, r4, r5, r6, r7, r8, r9) := h
 clear h
 replace H := Option.bind_eq_some_iff.mp H
 obtain ⟨t109, A20, H⟩ := H
 replace H : ((prefix_Right.f a0_0 a0_1 a0_2 a0_3).bind fun t110 => (if t110 = true then (if a0_3 = t109 then (some (false, 0, 0, 0, false, 0, 0, 0, 11)) else ((num_Of.f 1).bind fun bt113 => ((num_Shl.f bt113.1 bt113.2 (wrap64 (t109 - (wrap64 (a0_3 + 1))))).bind fun bt115 => ((num_Or.f a0_1 a0_2 bt115.1 bt115.2).bind fun bt117 => (some (a0_0, a0_1, a0_2, wrap64 (a0_3 + 1), a0_0, bt117.1, bt117.2, wrap64 (a0_3 + 1), 0)))))) else (some (false, 0, 0, 0, false, 0, 0, 0, 1)))) = some (r1, r2, r3, r4, r5, r6, r7, r8, r9) := H
 have A2 := Aside0.mk A20
 clear A20
 replace H := Option.bind_eq_some_iff.mp H
 obtain ⟨t110, A30, H⟩ := H
 replace H : (if t110 = true then (if a0_3 = t109 then (some (false, 0, 0, 0, false, 0, 0, 0, 11)) else ((num_Of.f 1).bind fun bt113 => ((num_Shl.f bt113.1 bt113.2 (wrap64 (t109 - (wrap64 (a0_3 + 1))))).bind fun bt115 => ((num_Or.f a0_1 a0_2 bt115.1 bt115.2).bind fun bt117 => (some (a0_0, a0_1, a0_2, wrap64 (a0_3 + 1), a0_0, bt117.1, bt117.2, wrap64 (a0_3 + 1), 0)))))) else (some (false, 0, 0, 0, false, 0, 0, 0, 1))) = some (r1, r2, r3, r4, r5, r6, r7, r8, r9) := H
 have A3 := Aside0.mk A30
 clear A30
 by_cases c4 : t110 = true
 ·
  subst c4
  rw [if_pos rfl] at H
  by_cases c5 : a0_3 = t109
  ·
   rw [if_pos c5] at H
   have c5b0 : (a0_3 == t109) = true := beq_iff_eq.mpr c5
   have c5b1 : (a0_3 != t109) = false := bne_eq_false_iff_eq.mpr c5
   clear c5
   simp only [Option.some.injEq, Prod.mk.injEq] at H
   obtain ⟨rfl, rfl, rfl, rfl, rfl, rfl, rfl, rfl, rfl⟩ := H
   go_enter Tryz.func33, Tryz.ntmps33
   go_wp2_with (first | ((with_reducible refine gate_dst (N := 1) rfl ?_); refine bx_ 1 #[.bool a0_0, .int .u64 a0_1, .int .u64 a0_2, .int .i64 a0_3] 38 ?_; intro gb106 hg w6 hbox hb; have BK106 := Aside0.mk (hbox); have GW106 := gw_ HB hg; have GE106 := gw_ HB hg; replace HB := bs_ HB hb; clear hb hbox hg) | ((with_reducible refine gate_dst (N := 2) rfl ?_); refine bx_ 2 #[.bool false, .int .u64 0, .int .u64 0, .int .i64 0] 38 ?_; intro gb107 hg w7 hbox hb; have BK107 := Aside0.mk (hbox); have GW107 := gw_ HB hg; have GE107 := gw_ HB hg; have NB106_107 := nl_ BK106 hg; have NB107_106 := ng_ BK106 hg; replace BK106 := bb_ BK106 hb; replace HB := bs_ HB hb; clear hb hbox hg) | ((with_reducible refine gate_dst (N := 3) rfl ?_); refine bx_ 3 #[.bool false, .int .u64 0, .int .u64 0, .int .i64 0] 38 ?_; intro gb108 hg w8 hbox hb; have BK108 := Aside0.mk (hbox); have GW108 := gw_ HB hg; have GE108 := gw_ HB hg; have NB106_108 := nl_ BK106 hg; have NB108_106 := ng_ BK106 hg; have NB107_108 := nl_ BK107 hg; have NB108_107 := ng_ BK107 hg; replace BK106 := bb_ BK106 hb; replace BK107 := bb_ BK107 hb; replace HB := bs_ HB hb; clear hb hbox hg; have hnb9 := NB106_107.out; have hnc9 := NB107_106.out; have hnb10 := NB106_108.out; have hnc10 := NB108_106.out; obtain ⟨hcz11_0, hcz11_1, hcz11_2, hcz11_3, hfz11_0, hfz11_1, hfz11_2, hfz11_3⟩ := c4_ BK106) | ((with_reducible refine gate_callee (f := 22) rfl ?_); refine gl_ (some 10) Tryz.func22 #[.agg #[.bool a0_0, .int .u64 a0_1, .int .u64 a0_2]] ?_; (with_reducible refine (addr_Width.calls a0_0 a0_1 a0_2 t109 _ A2.out).mono ?_); rintro e w12 ⟨rfl, hb⟩; refine ⟨_, rfl, ?_⟩; replace BK106 := bb_ BK106 hb; replace BK107 := bb_ BK107 hb; replace BK108 := bb_ BK108 hb; replace HB := bs_ HB hb; (try clear hb); (try clear hb2); (try clear hk); (try clear hi); obtain ⟨hcz13_0, hcz13_1, hcz13_2, hcz13_3, hfz13_0, hfz13_1, hfz13_2, hfz13_3⟩ := c4_ BK106) | ((with_reducible refine gate_callee (f := 36) rfl ?_); refine gl_ (some 13) Tryz.func36 #[.agg #[.bool a0_0, .int .u64 a0_1, .int .u64 a0_2, .int .i64 a0_3]] ?_; (with_reducible refine (prefix_Right.calls a0_0 a0_1 a0_2 a0_3 true _ A3.out).mono ?_); rintro e w14 ⟨rfl, hb⟩; refine ⟨_, rfl, ?_⟩; replace BK106 := bb_ BK106 hb; replace BK107 := bb_ BK107 hb; replace BK108 := bb_ BK108 hb; replace HB := bs_ HB hb; (try clear hb); (try clear hb2); (try clear hk); (try clear hi); obtain ⟨hcz15_0, hcz15_1, hcz15_2, hcz15_3, hfz15_0, hfz15_1, hfz15_2, hfz15_3⟩ := c4_ BK106; have hnb16 := NB107_108.out; have hnc16 := NB108_107.out; obtain ⟨hcz17_0, hcz17_1, hcz17_2, hcz17_3, hfz17_0, hfz17_1, hfz17_2, hfz17_3⟩ := c4_ BK107; obtain ⟨hcz18_0, hcz18_1, hcz18_2, hcz18_3, hfz18_0, hfz18_1, hfz18_2, hfz18_3⟩ := c4_ BK108))
   refine bodyPost_ret (results_list (rs := [.cell 2 38, .cell 3 38, .tmp 4]) rfl (by simp) (.cell gb107 38 #[.bool false, .int .u64 0, .int .u64 0, .int .i64 0] (0, 0) _ rfl (by refine pw_ ?_; refine blk_far ?_ NB107_108.out _; refine pw_ ?_; refine blk_far ?_ NB107_108.out _; refine pw_ ?_; refine blk_far ?_ NB107_108.out _; refine pw_ ?_; refine blk_far ?_ NB107_108.out _; refine pw_ ?_; refine blk_put (cs := #[.bool false, .int .u64 0, .int .u64 0, .int .i64 0]) ?_ 3 _ rfl; refine pw_ ?_; refine blk_put (cs := #[.bool false, .int .u64 0, .int .u64 0, .int .i64 0]) ?_ 2 _ rfl; refine pw_ ?_; refine blk_put (cs := #[.bool false, .int .u64 0, .int .u64 0, .int .i64 0]) ?_ 1 _ rfl; refine pw_ ?_; refine blk_put (cs := #[.bool false, .int .u64 0, .int .u64 0, .int .i64 0]) ?_ 0 _ rfl; refine pw_ ?_; exact BK107.out) Tryz.underlying38 rfl (by kernel_rfl) (.cell gb108 38 #[.bool false, .int .u64 0, .int .u64 0, .int .i64 0] (0, 0) _ rfl (by refine pw_ ?_; refine blk_put (cs := #[.bool false, .int .u64 0, .int .u64 0, .int .i64 0]) ?_ 3 _ rfl; refine pw_ ?_; refine blk_put (cs := #[.bool false, .int .u64 0, .int .u64 0, .int .i64 0]) ?_ 2 _ rfl; refine pw_ ?_; refine blk_put (cs := #[.bool false, .int .u64 0, .int .u64 0, .int .i64 0]) ?_ 1 _ rfl; refine pw_ ?_; refine blk_put (cs := #[.bool false, .int .u64 0, .int .u64 0, .int .i64 0]) ?_ 0 _ rfl; refine pw_ ?_; refine blk_far ?_ NB108_107.out _; refine pw_ ?_; refine blk_far ?_ NB108_107.out _; refine pw_ ?_; refine blk_far ?_ NB108_107.out _; refine pw_ ?_; refine blk_far ?_ NB108_107.out _; refine pw_ ?_; exact BK108.out) Tryz.underlying38 rfl (by kernel_rfl) (.tmp .nil)))) rfl ?_
   exact ⟨by first | rfl | (simp [errW_none, errW_some] <;> rfl) | (simp [*, errW_none, errW_some] <;> rfl), pb_ HB⟩
  ·
   rw [if_neg c5] at H
   have c5b0 : (a0_3 == t109) = false := beq_eq_false_iff_ne.mpr c5
   have c5b1 : (a0_3 != t109) = true := bne_iff_ne.mpr c5
   replace H := Option.bind_eq_some_iff.mp H
   obtain ⟨⟨t113, t114⟩, A190, H⟩ := H
   replace H : ((num_Shl.f t113 t114 (wrap64 (t109 - (wrap64 (a0_3 + 1))))).bind fun bt115 => ((num_Or.f a0_1 a0_2 bt115.1 bt115.2).bind fun bt117 => (some (a0_0, a0_1, a0_2, wrap64 (a0_3 + 1), a0_0, bt117.1, bt117.2, wrap64 (a0_3 + 1), 0)))) = some (r1, r2, r3, r4, r5, r6, r7, r8, r9) := H
   have A19 := Aside0.mk A190
   clear A190
   replace H := Option.bind_eq_some_iff.mp H
   obtain ⟨⟨t115, t116⟩, A200, H⟩ := H
   replace H : ((num_Or.f a0_1 a0_2 t115 t116).bind fun bt117 => (some (a0_0, a0_1, a0_2, wrap64 (a0_3 + 1), a0_0, bt117.1, bt117.2, wrap64 (a0_3 + 1), 0))) = some (r1, r2, r3, r4, r5, r6, r7, r8, r9) := H
   have A20 := Aside0.mk A200
   clear A200
   replace H := Option.bind_eq_some_iff.mp H
   obtain ⟨⟨t117, t118⟩, A210, H⟩ := H
   replace H : (some (a0_0, a0_1, a0_2, wrap64 (a0_3 + 1), a0_0, t117, t118, wrap64 (a0_3 + 1), 0)) = some (r1, r2, r3, r4, r5, r6, r7, r8, r9) := H
   have A21 := Aside0.mk A210
   clear A210
   simp only [Option.some.injEq, Prod.mk.injEq] at H
   obtain ⟨rfl, rfl, rfl, rfl, rfl, rfl, rfl, rfl, rfl⟩ := H
   go_enter Tryz.func33, Tryz.ntmps33
   try go_wp2_with (first | ((with_reducible refine gate_dst (N := 1) rfl ?_); refine bx_ 1 #[.bool a0_0, .int .u64 a0_1, .int .u64 a0_2, .int .i64 a0_3] 38 ?_; intro gb106 hg w22 hbox hb; have BK106 := Aside0.mk (hbox); have GW106 := gw_ HB hg; have GE106 := gw_ HB hg; replace HB := bs_ HB hb; clear hb hbox hg) | ((with_reducible refine gate_dst (N := 2) rfl ?_); refine bx_ 2 #[.bool false, .int .u64 0, .int .u64 0, .int .i64 0] 38 ?_; intro gb107 hg w23 hbox hb; have BK107 := Aside0.mk (hbox); have GW107 := gw_ HB hg; have GE107 := gw_ HB hg; have NB106_107 := nl_ BK106 hg; have NB107_106 := ng_ BK106 hg; replace BK106 := bb_ BK106 hb; replace HB := bs_ HB hb; clear hb hbox hg) | ((with_reducible refine gate_dst (N := 3) rfl ?_); refine bx_ 3 #[.bool false, .int .u64 0, .int .u64 0, .int .i64 0] 38 ?_; intro gb108 hg w24 hbox hb; have BK108 := Aside0.mk (hbox); have GW108 := gw_ HB hg; have GE108 := gw_ HB hg; have NB106_108 := nl_ BK106 hg; have NB108_106 := ng_ BK106 hg; have NB107_108 := nl_ BK107 hg; have NB108_107 := ng_ BK107 hg; replace BK106 := bb_ BK106 hb; replace BK107 := bb_ BK107 hb; replace HB := bs_ HB hb; clear hb hbox hg; have hnb25 := NB106_107.out; have hnc25 := NB107_106.out; have hnb26 := NB106_108.out; have hnc26 := NB108_106.out; obtain ⟨hcz27_0, hcz27_1, hcz27_2, hcz27_3, hfz27_0, hfz27_1, hfz27_2, hfz27_3⟩ := c4_ BK106) | ((with_reducible refine gate_callee (f := 22) rfl ?_); refine gl_ (some 10) Tryz.func22 #[.agg #[.bool a0_0, .int .u64 a0_1, .int .u64 a0_2]] ?_; (with_reducible refine (addr_Width.calls a0_0 a0_1 a0_2 t109 _ A2.out).mono ?_); rintro e w28 ⟨rfl, hb⟩; refine ⟨_, rfl, ?_⟩; replace BK106 := bb_ BK106 hb; replace BK107 := bb_ BK107 hb; replace BK108 := bb_ BK108 hb; replace HB := bs_ HB hb; (try clear hb); (try clear hb2); (try clear hk); (try clear hi); obtain ⟨hcz29_0, hcz29_1, hcz29_2, hcz29_3, hfz29_0, hfz29_1, hfz29_2, hfz29_3⟩ := c4_ BK106) | ((with_reducible refine gate_callee (f := 36) rfl ?_); refine gl_ (some 13) Tryz.func36 #[.agg #[.bool a0_0, .int .u64 a0_1, .int .u64 a0_2, .int .i64 a0_3]] ?_; (with_reducible refine (prefix_Right.calls a0_0 a0_1 a0_2 a0_3 true _ A3.out).mono ?_); rintro e w30 ⟨rfl, hb⟩; refine ⟨_, rfl, ?_⟩; replace BK106 := bb_ BK106 hb; replace BK107 := bb_ BK107 hb; replace BK108 := bb_ BK108 hb; replace HB := bs_ HB hb; (try clear hb); (try clear hb2); (try clear hk); (try clear hi); obtain ⟨hcz31_0, hcz31_1, hcz31_2, hcz31_3, hfz31_0, hfz31_1, hfz31_2, hfz31_3⟩ := c4_ BK106))
   replace BK106 := Aside0.mk (blk_drew BK106.out)
   replace BK107 := Aside0.mk (blk_drew BK107.out)
   replace BK108 := Aside0.mk (blk_drew BK108.out)
   replace HB := Aside0.mk (below_drew1 HB.out)
   refine start_ (n := 6) (S := fun w' => w'.cell? ⟨gb106, 0, none⟩ = some (.bool a0_0) ∧ w'.cell? ⟨gb106, 1, none⟩ = some (.int .u64 a0_1) ∧ w'.cell? ⟨gb106, 2, none⟩ = some (.int .u64 a0_2) ∧ w'.cell? ⟨gb106, 3, none⟩ = some (.int .i64 a0_3)) (ds := []) (bm_ 6 0) (by kernel_rfl) rfl rfl ⟨kc_ BK106 0, kc_ BK106 1, kc_ BK106 2, kc_ BK106 3⟩ (fun hHeld => ?_)
   generalize w30.drew = w32 at BK106 BK107 BK108 HB hHeld ⊢
   refine take_ (i := 0) (N := some 24) (v := ?_) (a' := ?_) (bm_ 6 1) rfl rfl (by kernel_rfl) (fun _ _ _ h => h) (Or.inl ⟨by rfl, ?_⟩) hHeld ?_ ?_
   rotate_left
   ·
    rintro w' ⟨s0, s1, s2, s3⟩
    go_simp
    with_reducible rfl
   rotate_left
   ·
    simp only [Act.put, List.setIfInBounds_toArray, List.set_cons_zero, List.set_cons_succ, i64_w, i32_w]
    rfl
   refine take_ (i := 1) (N := some 25) (v := ?_) (a' := ?_) (bm_ 6 3) rfl rfl (by kernel_rfl) (fun _ _ _ h => h) (Or.inl ⟨by rfl, ?_⟩) hHeld ?_ ?_
   rotate_left
   ·
    rintro w' ⟨s0, s1, s2, s3⟩
    go_simp
    with_reducible rfl
   rotate_left
   ·
    simp only [Act.put, List.setIfInBounds_toArray, List.set_cons_zero, List.set_cons_succ, i64_w, i32_w]
    rfl
   refine join_ (σ := Nat × Nat) 2 (bm_ 6 15) (fun s_ => [(6, .pointer (some ⟨s_.1, 0, none⟩)), (7, .pointer (some ⟨s_.2, 0, none⟩))]) (fun s_ w' => (w'.cell? ⟨gb106, 0, none⟩ = some (.bool a0_0) ∧ w'.cell? ⟨gb106, 1, none⟩ = some (.int .u64 a0_1) ∧ w'.cell? ⟨gb106, 2, none⟩ = some (.int .u64 a0_2) ∧ w'.cell? ⟨gb106, 3, none⟩ = some (.int .i64 a0_3)) ∧ (w'.heap[gb106]? = some (.cells #[.bool a0_0, .int .u64 a0_1, .int .u64 a0_2, .int .i64 a0_3] 38 (0, 0))) ∧ (w'.heap[gb107]? = some (.cells #[.bool false, .int .u64 0, .int .u64 0, .int .i64 0] 38 (0, 0))) ∧ (w'.heap[gb108]? = some (.cells #[.bool false, .int .u64 0, .int .u64 0, .int .i64 0] 38 (0, 0))) ∧ (w'.heap[s_.1]? = some (.cells #[.bool false, .int .u64 0, .int .u64 0, .int .i64 0] 38 (0, 0))) ∧ (w'.heap[s_.2]? = some (.cells #[.bool false, .int .u64 0, .int .u64 0, .int .i64 0] 38 (0, 0))) ∧ (w.heap.size ≤ s_.1) ∧ (w.heap.size ≤ s_.1) ∧ (gb106 ≠ s_.1) ∧ (s_.1 ≠ gb106) ∧ (gb107 ≠ s_.1) ∧ (s_.1 ≠ gb107) ∧ (gb108 ≠ s_.1) ∧ (s_.1 ≠ gb108) ∧ (s_.2 ≠ s_.1) ∧ (s_.1 ≠ s_.2) ∧ (w.heap.size ≤ s_.2) ∧ (w.heap.size ≤ s_.2) ∧ (gb106 ≠ s_.2) ∧ (s_.2 ≠ gb106) ∧ (gb107 ≠ s_.2) ∧ (s_.2 ≠ gb107) ∧ (gb108 ≠ s_.2) ∧ (s_.2 ≠ gb108) ∧ (Below w.heap.size w w')) ?_ ?_
   rotate_left
   ·
    intro hCont
    refine two_ (i := 2) (j := 3) (Ni := some 6) (Nj := some 7) (bm_ 6 7) (bm_ 6 11) rfl rfl rfl rfl (by kernel_rfl) (by decide) (by decide) (fun K hK => ?_) (fun K hK => ?_)
    ·
     skip
     refine box_step ?hg (N := 6) ?hd (cs := #[.bool false, .int .u64 0, .int .u64 0, .int .i64 0]) (t := 38) ?hr ?_; (case hd => rfl); (case hg => rfl); (case hr => first | (go_simp; done) | (go_simp; rfl))
     intro gb111 hg w33 hbox hb
     have BK111 := Aside0.mk (hbox)
     have GW111 := gw_ HB hg
     have GE111 := gw_ HB hg
     have NB106_111 := nl_ BK106 hg
     have NB111_106 := ng_ BK106 hg
     have NB107_111 := nl_ BK107 hg
     have NB111_107 := ng_ BK107 hg
     have NB108_111 := nl_ BK108 hg
     have NB111_108 := ng_ BK108 hg
     replace BK106 := bb_ BK106 hb
     replace BK107 := bb_ BK107 hb
     replace BK108 := bb_ BK108 hb
     replace HB := bs_ HB hb
     clear hb hbox hg
     refine hK.out _ _ ⟨kc_ BK106 0, kc_ BK106 1, kc_ BK106 2, kc_ BK106 3⟩ (fun hHeld => ?_)
     clear hK K
     refine norm_ (a' := ?_) ?_ ?_
     rotate_left
     ·
      show Act.put _ (some 6) _ = _
      simp only [Act.put, List.setIfInBounds_toArray, List.set_cons_zero, List.set_cons_succ, i64_w, i32_w]
      rfl
     refine one_ (i := 3) (N := some 7) (bm_ 6 15) rfl rfl (by kernel_rfl) (by decide) (fun K hK => ?_)
     refine box_step ?hg (N := 7) ?hd (cs := #[.bool false, .int .u64 0, .int .u64 0, .int .i64 0]) (t := 38) ?hr ?_; (case hd => rfl); (case hg => rfl); (case hr => first | (go_simp; done) | (go_simp; rfl))
     intro gb112 hg w34 hbox hb
     have BK112 := Aside0.mk (hbox)
     have GW112 := gw_ HB hg
     have GE112 := gw_ HB hg
     have NB106_112 := nl_ BK106 hg
     have NB112_106 := ng_ BK106 hg
     have NB107_112 := nl_ BK107 hg
     have NB112_107 := ng_ BK107 hg
     have NB108_112 := nl_ BK108 hg
     have NB112_108 := ng_ BK108 hg
     have NB111_112 := nl_ BK111 hg
     have NB112_111 := ng_ BK111 hg
     replace BK106 := bb_ BK106 hb
     replace BK107 := bb_ BK107 hb
     replace BK108 := bb_ BK108 hb
     replace BK111 := bb_ BK111 hb
     replace HB := bs_ HB hb
     clear hb hbox hg
     refine hK.out _ _ ⟨kc_ BK106 0, kc_ BK106 1, kc_ BK106 2, kc_ BK106 3⟩ (fun hHeld => ?_)
     clear hK K
     refine norm_ (a' := ?_) ?_ ?_
     rotate_left
     ·
      show Act.put _ (some 7) _ = _
      simp only [Act.put, List.setIfInBounds_toArray, List.set_cons_zero, List.set_cons_succ, i64_w, i32_w]
      rfl
     exact norm_ (by simp only [putAll, Act.put, List.setIfInBounds_toArray, List.set_cons_zero, List.set_cons_succ]) (hCont (gb111, gb112) _ ⟨hHeld, (pk_ BK106), (pk_ BK107), (pk_ BK108), (pk_ BK111), (pk_ BK112), GW111.out, GE111.out, NB106_111.out, NB111_106.out, NB107_111.out, NB111_107.out, NB108_111.out, NB111_108.out, NB112_111.out, NB111_112.out, GW112.out, GE112.out, NB106_112.out, NB112_106.out, NB107_112.out, NB112_107.out, NB108_112.out, NB112_108.out, (pb_ HB)⟩)
    ·
     skip
     refine box_step ?hg (N := 7) ?hd (cs := #[.bool false, .int .u64 0, .int .u64 0, .int .i64 0]) (t := 38) ?hr ?_; (case hd => rfl); (case hg => rfl); (case hr => first | (go_simp; done) | (go_simp; rfl))
     intro gb112 hg w33 hbox hb
     have BK112 := Aside0.mk (hbox)
     have GW112 := gw_ HB hg
     have GE112 := gw_ HB hg
     have NB106_112 := nl_ BK106 hg
     have NB112_106 := ng_ BK106 hg
     have NB107_112 := nl_ BK107 hg
     have NB112_107 := ng_ BK107 hg
     have NB108_112 := nl_ BK108 hg
     have NB112_108 := ng_ BK108 hg
     replace BK106 := bb_ BK106 hb
     replace BK107 := bb_ BK107 hb
     replace BK108 := bb_ BK108 hb
     replace HB := bs_ HB hb
     clear hb hbox hg
     refine hK.out _ _ ⟨kc_ BK106 0, kc_ BK106 1, kc_ BK106 2, kc_ BK106 3⟩ (fun hHeld => ?_)
     clear hK K
     refine norm_ (a' := ?_) ?_ ?_
     rotate_left
     ·
      show Act.put _ (some 7) _ = _
      simp only [Act.put, List.setIfInBounds_toArray, List.set_cons_zero, List.set_cons_succ, i64_w, i32_w]
      rfl
     refine one_ (i := 2) (N := some 6) (bm_ 6 15) rfl rfl (by kernel_rfl) (by decide) (fun K hK => ?_)
     refine box_step ?hg (N := 6) ?hd (cs := #[.bool false, .int .u64 0, .int .u64 0, .int .i64 0]) (t := 38) ?hr ?_; (case hd => rfl); (case hg => rfl); (case hr => first | (go_simp; done) | (go_simp; rfl))
     intro gb111 hg w34 hbox hb
     have BK111 := Aside0.mk (hbox)
     have GW111 := gw_ HB hg
     have GE111 := gw_ HB hg
     have NB106_111 := nl_ BK106 hg
     have NB111_106 := ng_ BK106 hg
     have NB107_111 := nl_ BK107 hg
     have NB111_107 := ng_ BK107 hg
     have NB108_111 := nl_ BK108 hg
     have NB111_108 := ng_ BK108 hg
     have NB112_111 := nl_ BK112 hg
     have NB111_112 := ng_ BK112 hg
     replace BK106 := bb_ BK106 hb
     replace BK107 := bb_ BK107 hb
     replace BK108 := bb_ BK108 hb
     replace BK112 := bb_ BK112 hb
     replace HB := bs_ HB hb
     clear hb hbox hg
     refine hK.out _ _ ⟨kc_ BK106 0, kc_ BK106 1, kc_ BK106 2, kc_ BK106 3⟩ (fun hHeld => ?_)
     clear hK K
     refine norm_ (a' := ?_) ?_ ?_
     rotate_left
     ·
      show Act.put _ (some 6) _ = _
      simp only [Act.put, List.setIfInBounds_toArray, List.set_cons_zero, List.set_cons_succ, i64_w, i32_w]
      rfl
     exact norm_ (by simp only [putAll, Act.put, List.setIfInBounds_toArray, List.set_cons_zero, List.set_cons_succ]) (hCont (gb111, gb112) _ ⟨hHeld, (pk_ BK106), (pk_ BK107), (pk_ BK108), (pk_ BK111), (pk_ BK112), GW111.out, GE111.out, NB106_111.out, NB111_106.out, NB107_111.out, NB111_107.out, NB108_111.out, NB111_108.out, NB112_111.out, NB111_112.out, GW112.out, GE112.out, NB106_112.out, NB112_106.out, NB107_112.out, NB112_107.out, NB108_112.out, NB112_108.out, (pb_ HB)⟩)
   rintro ⟨gb111, gb112⟩ w35 ⟨hS_, h0_, h1_, h2_, h3_, h4_, h5_, h6_, h7_, h8_, h9_, h10_, h11_, h12_, h13_, h14_, h15_, h16_, h17_, h18_, h19_, h20_, h21_, h22_, h23_⟩
   have n0_ : Aside0 (w35.heap[gb106]? = some (.cells #[.bool a0_0, .int .u64 a0_1, .int .u64 a0_2, .int .i64 a0_3] 38 (0, 0))) := ⟨h0_⟩
   have n1_ : Aside0 (w35.heap[gb107]? = some (.cells #[.bool false, .int .u64 0, .int .u64 0, .int .i64 0] 38 (0, 0))) := ⟨h1_⟩
   have n2_ : Aside0 (w35.heap[gb108]? = some (.cells #[.bool false, .int .u64 0, .int .u64 0, .int .i64 0] 38 (0, 0))) := ⟨h2_⟩
   have n3_ : Aside0 (w35.heap[gb111]? = some (.cells #[.bool false, .int .u64 0, .int .u64 0, .int .i64 0] 38 (0, 0))) := ⟨h3_⟩
   have n4_ : Aside0 (w35.heap[gb112]? = some (.cells #[.bool false, .int .u64 0, .int .u64 0, .int .i64 0] 38 (0, 0))) := ⟨h4_⟩
   have n5_ : Aside0 (w.heap.size ≤ gb111) := ⟨h5_⟩
   have n6_ : Aside0 (w.heap.size ≤ gb111) := ⟨h6_⟩
   have n7_ : Aside0 (gb106 ≠ gb111) := ⟨h7_⟩
   have n8_ : Aside0 (gb111 ≠ gb106) := ⟨h8_⟩
   have n9_ : Aside0 (gb107 ≠ gb111) := ⟨h9_⟩
   have n10_ : Aside0 (gb111 ≠ gb107) := ⟨h10_⟩
   have n11_ : Aside0 (gb108 ≠ gb111) := ⟨h11_⟩
   have n12_ : Aside0 (gb111 ≠ gb108) := ⟨h12_⟩
   have n13_ : Aside0 (gb112 ≠ gb111) := ⟨h13_⟩
   have n14_ : Aside0 (gb111 ≠ gb112) := ⟨h14_⟩
   have n15_ : Aside0 (w.heap.size ≤ gb112) := ⟨h15_⟩
   have n16_ : Aside0 (w.heap.size ≤ gb112) := ⟨h16_⟩
   have n17_ : Aside0 (gb106 ≠ gb112) := ⟨h17_⟩
   have n18_ : Aside0 (gb112 ≠ gb106) := ⟨h18_⟩
   have n19_ : Aside0 (gb107 ≠ gb112) := ⟨h19_⟩
   have n20_ : Aside0 (gb112 ≠ gb107) := ⟨h20_⟩
   have n21_ : Aside0 (gb108 ≠ gb112) := ⟨h21_⟩
   have n22_ : Aside0 (gb112 ≠ gb108) := ⟨h22_⟩
   have n23_ : Aside0 (Below w.heap.size w w35) := ⟨h23_⟩
   clear BK106
   clear BK107
   clear BK108
   clear HB
   clear h0_ h1_ h2_ h3_ h4_ h5_ h6_ h7_ h8_ h9_ h10_ h11_ h12_ h13_ h14_ h15_ h16_ h17_ h18_ h19_ h20_ h21_ h22_ h23_
   have BK106 := n0_
   have BK107 := n1_
   have BK108 := n2_
   have BK111 := n3_
   have BK112 := n4_
   have GW111 := n5_
   have GE111 := n6_
   have NB106_111 := n7_
   have NB111_106 := n8_
   have NB107_111 := n9_
   have NB111_107 := n10_
   have NB108_111 := n11_
   have NB111_108 := n12_
   have NB112_111 := n13_
   have NB111_112 := n14_
   have GW112 := n15_
   have GE112 := n16_
   have NB106_112 := n17_
   have NB112_106 := n18_
   have NB107_112 := n19_
   have NB112_107 := n20_
   have NB108_112 := n21_
   have NB112_108 := n22_
   have HB := n23_
   clear n0_ n1_ n2_ n3_ n4_ n5_ n6_ n7_ n8_ n9_ n10_ n11_ n12_ n13_ n14_ n15_ n16_ n17_ n18_ n19_ n20_ n21_ n22_ n23_
   have hHeld : w35.cell? ⟨gb106, 0, none⟩ = some (.bool a0_0) ∧ w35.cell? ⟨gb106, 1, none⟩ = some (.int .u64 a0_1) ∧ w35.cell? ⟨gb106, 2, none⟩ = some (.int .u64 a0_2) ∧ w35.cell? ⟨gb106, 3, none⟩ = some (.int .i64 a0_3) := hS_
   refine norm_ (a' := ?_) ?_ ?_
   rotate_left
   ·
    simp only [putAll, Act.put, List.setIfInBounds_toArray, List.set_cons_zero, List.set_cons_succ]
    rfl
   refine one_ (i := 4) (N := none) (bm_ 6 31) rfl rfl (by kernel_rfl) (by decide) (fun K hK => ?_)
   have hs36 : w35.cell? ⟨gb111, 0, none⟩ = some (.bool false) := kc_ BK111 0
   have hfs36 := blk_frozen BK111.out 0
   have hns36_0 := NB106_111.out
   have hns36_1 := NB107_111.out
   have hns36_2 := NB108_111.out
   have hns36_4 := NB112_111.out
   have hms36_0 := NB111_106.out
   have hms36_1 := NB111_107.out
   have hms36_2 := NB111_108.out
   have hms36_4 := NB111_112.out
   have hs37 : w35.cell? ⟨gb111, 1, none⟩ = some (.int .u64 0) := kc_ BK111 1
   have hfs37 := blk_frozen BK111.out 1
   have hns37_0 := NB106_111.out
   have hns37_1 := NB107_111.out
   have hns37_2 := NB108_111.out
   have hns37_4 := NB112_111.out
   have hms37_0 := NB111_106.out
   have hms37_1 := NB111_107.out
   have hms37_2 := NB111_108.out
   have hms37_4 := NB111_112.out
   have hs38 : w35.cell? ⟨gb111, 2, none⟩ = some (.int .u64 0) := kc_ BK111 2
   have hfs38 := blk_frozen BK111.out 2
   have hns38_0 := NB106_111.out
   have hns38_1 := NB107_111.out
   have hns38_2 := NB108_111.out
   have hns38_4 := NB112_111.out
   have hms38_0 := NB111_106.out
   have hms38_1 := NB111_107.out
   have hms38_2 := NB111_108.out
   have hms38_4 := NB111_112.out
   have hs39 : w35.cell? ⟨gb111, 3, none⟩ = some (.int .i64 0) := kc_ BK111 3
   have hfs39 := blk_frozen BK111.out 3
   have hns39_0 := NB106_111.out
   have hns39_1 := NB107_111.out
   have hns39_2 := NB108_111.out
   have hns39_4 := NB112_111.out
   have hms39_0 := NB111_106.out
   have hms39_1 := NB111_107.out
   have hms39_2 := NB111_108.out
   have hms39_4 := NB111_112.out
   refine skip_ (w1 := ?_) (by rfl) rfl ?_ ?_
   rotate_left
   ·
    go_simp
    rfl
   refine hK.out _ _ ⟨((cell_far (p := ⟨gb111, _, none⟩) NB106_111.out _).trans (((cell_far (p := ⟨gb111, _, none⟩) NB106_111.out _).trans (((cell_far (p := ⟨gb111, _, none⟩) NB106_111.out _).trans (((cell_far (p := ⟨gb111, _, none⟩) NB106_111.out _).trans (hHeld.1)))))))), ((cell_far (p := ⟨gb111, _, none⟩) NB106_111.out _).trans (((cell_far (p := ⟨gb111, _, none⟩) NB106_111.out _).trans (((cell_far (p := ⟨gb111, _, none⟩) NB106_111.out _).trans (((cell_far (p := ⟨gb111, _, none⟩) NB106_111.out _).trans (hHeld.2.1)))))))), ((cell_far (p := ⟨gb111, _, none⟩) NB106_111.out _).trans (((cell_far (p := ⟨gb111, _, none⟩) NB106_111.out _).trans (((cell_far (p := ⟨gb111, _, none⟩) NB106_111.out _).trans (((cell_far (p := ⟨gb111, _, none⟩) NB106_111.out _).trans (hHeld.2.2.1)))))))), ((cell_far (p := ⟨gb111, _, none⟩) NB106_111.out _).trans (((cell_far (p := ⟨gb111, _, none⟩) NB106_111.out _).trans (((cell_far (p := ⟨gb111, _, none⟩) NB106_111.out _).trans (((cell_far (p := ⟨gb111, _, none⟩) NB106_111.out _).trans (hHeld.2.2.2))))))))⟩ (fun hHeld => ?_)
   clear hK K
   refine one_ (i := 5) (N := none) (bm_ 6 63) rfl rfl (by kernel_rfl) (by decide) (fun K hK => ?_)
   have hs40 : w35.cell? ⟨gb112, 0, none⟩ = some (.bool false) := kc_ BK112 0
   have hfs40 := blk_frozen BK112.out 0
   have hns40_0 := NB106_112.out
   have hns40_1 := NB107_112.out
   have hns40_2 := NB108_112.out
   have hns40_3 := NB111_112.out
   have hms40_0 := NB112_106.out
   have hms40_1 := NB112_107.out
   have hms40_2 := NB112_108.out
   have hms40_3 := NB112_111.out
   have hs41 : w35.cell? ⟨gb112, 1, none⟩ = some (.int .u64 0) := kc_ BK112 1
   have hfs41 := blk_frozen BK112.out 1
   have hns41_0 := NB106_112.out
   have hns41_1 := NB107_112.out
   have hns41_2 := NB108_112.out
   have hns41_3 := NB111_112.out
   have hms41_0 := NB112_106.out
   have hms41_1 := NB112_107.out
   have hms41_2 := NB112_108.out
   have hms41_3 := NB112_111.out
   have hs42 : w35.cell? ⟨gb112, 2, none⟩ = some (.int .u64 0) := kc_ BK112 2
   have hfs42 := blk_frozen BK112.out 2
   have hns42_0 := NB106_112.out
   have hns42_1 := NB107_112.out
   have hns42_2 := NB108_112.out
   have hns42_3 := NB111_112.out
   have hms42_0 := NB112_106.out
   have hms42_1 := NB112_107.out
   have hms42_2 := NB112_108.out
   have hms42_3 := NB112_111.out
   have hs43 : w35.cell? ⟨gb112, 3, none⟩ = some (.int .i64 0) := kc_ BK112 3
   have hfs43 := blk_frozen BK112.out 3
   have hns43_0 := NB106_112.out
   have hns43_1 := NB107_112.out
   have hns43_2 := NB108_112.out
   have hns43_3 := NB111_112.out
   have hms43_0 := NB112_106.out
   have hms43_1 := NB112_107.out
   have hms43_2 := NB112_108.out
   have hms43_3 := NB112_111.out
   refine skip_ (w1 := ?_) (by rfl) rfl ?_ ?_
   rotate_left
   ·
    go_simp
    rfl
   refine hK.out _ _ ⟨((cell_far (p := ⟨gb112, _, none⟩) NB106_112.out _).trans (((cell_far (p := ⟨gb112, _, none⟩) NB106_112.out _).trans (((cell_far (p := ⟨gb112, _, none⟩) NB106_112.out _).trans (((cell_far (p := ⟨gb112, _, none⟩) NB106_112.out _).trans (hHeld.1)))))))), ((cell_far (p := ⟨gb112, _, none⟩) NB106_112.out _).trans (((cell_far (p := ⟨gb112, _, none⟩) NB106_112.out _).trans (((cell_far (p := ⟨gb112, _, none⟩) NB106_112.out _).trans (((cell_far (p := ⟨gb112, _, none⟩) NB106_112.out _).trans (hHeld.2.1)))))))), ((cell_far (p := ⟨gb112, _, none⟩) NB106_112.out _).trans (((cell_far (p := ⟨gb112, _, none⟩) NB106_112.out _).trans (((cell_far (p := ⟨gb112, _, none⟩) NB106_112.out _).trans (((cell_far (p := ⟨gb112, _, none⟩) NB106_112.out _).trans (hHeld.2.2.1)))))))), ((cell_far (p := ⟨gb112, _, none⟩) NB106_112.out _).trans (((cell_far (p := ⟨gb112, _, none⟩) NB106_112.out _).trans (((cell_far (p := ⟨gb112, _, none⟩) NB106_112.out _).trans (((cell_far (p := ⟨gb112, _, none⟩) NB106_112.out _).trans (hHeld.2.2.2))))))))⟩ (fun hHeld => ?_)
   clear hK K
   refine done_ (by kernel_rfl) ?_
   have hnb44 := NB111_106.out
   have hnc44 := NB106_111.out
   have hnb45 := NB111_107.out
   have hnc45 := NB107_111.out
   have hnb46 := NB111_108.out
   have hnc46 := NB108_111.out
   have hnb47 := NB111_112.out
   have hnc47 := NB112_111.out
   obtain ⟨hcz48_0, hcz48_1, hcz48_2, hcz48_3, hfz48_0, hfz48_1, hfz48_2, hfz48_3⟩ := c4_ BK111
   have hnb49 := NB112_106.out
   have hnc49 := NB106_112.out
   have hnb50 := NB112_107.out
   have hnc50 := NB107_112.out
   have hnb51 := NB112_108.out
   have hnc51 := NB108_112.out
   obtain ⟨hcz52_0, hcz52_1, hcz52_2, hcz52_3, hfz52_0, hfz52_1, hfz52_2, hfz52_3⟩ := c4_ BK112
   try go_wp2
   have n0_ : Aside0 (((((((((((w35.setCell ⟨gb111, 0, none⟩ (.bool a0_0)).setCell ⟨gb111, 1, none⟩ (.int .u64 a0_1)).setCell ⟨gb111, 2, none⟩ (.int .u64 a0_2)).setCell ⟨gb111, 3, none⟩ (.int .i64 a0_3)).setCell ⟨gb112, 0, none⟩ (.bool a0_0)).setCell ⟨gb112, 1, none⟩ (.int .u64 a0_1)).setCell ⟨gb112, 2, none⟩ (.int .u64 a0_2)).setCell ⟨gb112, 3, none⟩ (.int .i64 a0_3)).setCell ⟨gb111, 3, none⟩ (.int .i64 (wrap64 (a0_3 + 1)))).setCell ⟨gb112, 3, none⟩ (.int .i64 (wrap64 (a0_3 + 1)))).heap[gb106]? = some (.cells #[.bool a0_0, .int .u64 a0_1, .int .u64 a0_2, .int .i64 a0_3] 38 (0, 0))) := ⟨by refine pw_ ?_; refine blk_far ?_ NB106_112.out _; refine pw_ ?_; refine blk_far ?_ NB106_111.out _; refine pw_ ?_; refine blk_far ?_ NB106_112.out _; refine pw_ ?_; refine blk_far ?_ NB106_112.out _; refine pw_ ?_; refine blk_far ?_ NB106_112.out _; refine pw_ ?_; refine blk_far ?_ NB106_112.out _; refine pw_ ?_; refine blk_far ?_ NB106_111.out _; refine pw_ ?_; refine blk_far ?_ NB106_111.out _; refine pw_ ?_; refine blk_far ?_ NB106_111.out _; refine pw_ ?_; refine blk_far ?_ NB106_111.out _; refine pw_ ?_; exact BK106.out⟩
   have n1_ : Aside0 (((((((((((w35.setCell ⟨gb111, 0, none⟩ (.bool a0_0)).setCell ⟨gb111, 1, none⟩ (.int .u64 a0_1)).setCell ⟨gb111, 2, none⟩ (.int .u64 a0_2)).setCell ⟨gb111, 3, none⟩ (.int .i64 a0_3)).setCell ⟨gb112, 0, none⟩ (.bool a0_0)).setCell ⟨gb112, 1, none⟩ (.int .u64 a0_1)).setCell ⟨gb112, 2, none⟩ (.int .u64 a0_2)).setCell ⟨gb112, 3, none⟩ (.int .i64 a0_3)).setCell ⟨gb111, 3, none⟩ (.int .i64 (wrap64 (a0_3 + 1)))).setCell ⟨gb112, 3, none⟩ (.int .i64 (wrap64 (a0_3 + 1)))).heap[gb107]? = some (.cells #[.bool false, .int .u64 0, .int .u64 0, .int .i64 0] 38 (0, 0))) := ⟨by refine pw_ ?_; refine blk_far ?_ NB107_112.out _; refine pw_ ?_; refine blk_far ?_ NB107_111.out _; refine pw_ ?_; refine blk_far ?_ NB107_112.out _; refine pw_ ?_; refine blk_far ?_ NB107_112.out _; refine pw_ ?_; refine blk_far ?_ NB107_112.out _; refine pw_ ?_; refine blk_far ?_ NB107_112.out _; refine pw_ ?_; refine blk_far ?_ NB107_111.out _; refine pw_ ?_; refine blk_far ?_ NB107_111.out _; refine pw_ ?_; refine blk_far ?_ NB107_111.out _; refine pw_ ?_; refine blk_far ?_ NB107_111.out _; refine pw_ ?_; exact BK107.out⟩
   have n2_ : Aside0 (((((((((((w35.setCell ⟨gb111, 0, none⟩ (.bool a0_0)).setCell ⟨gb111, 1, none⟩ (.int .u64 a0_1)).setCell ⟨gb111, 2, none⟩ (.int .u64 a0_2)).setCell ⟨gb111, 3, none⟩ (.int .i64 a0_3)).setCell ⟨gb112, 0, none⟩ (.bool a0_0)).setCell ⟨gb112, 1, none⟩ (.int .u64 a0_1)).setCell ⟨gb112, 2, none⟩ (.int .u64 a0_2)).setCell ⟨gb112, 3, none⟩ (.int .i64 a0_3)).setCell ⟨gb111, 3, none⟩ (.int .i64 (wrap64 (a0_3 + 1)))).setCell ⟨gb112, 3, none⟩ (.int .i64 (wrap64 (a0_3 + 1)))).heap[gb108]? = some (.cells #[.bool false, .int .u64 0, .int .u64 0, .int .i64 0] 38 (0, 0))) := ⟨by refine pw_ ?_; refine blk_far ?_ NB108_112.out _; refine pw_ ?_; refine blk_far ?_ NB108_111.out _; refine pw_ ?_; refine blk_far ?_ NB108_112.out _; refine pw_ ?_; refine blk_far ?_ NB108_112.out _; refine pw_ ?_; refine blk_far ?_ NB108_112.out _; refine pw_ ?_; refine blk_far ?_ NB108_112.out _; refine pw_ ?_; refine blk_far ?_ NB108_111.out _; refine pw_ ?_; refine blk_far ?_ NB108_111.out _; refine pw_ ?_; refine blk_far ?_ NB108_111.out _; refine pw_ ?_; refine blk_far ?_ NB108_111.out _; refine pw_ ?_; exact BK108.out⟩
   have n3_ : Aside0 (((((((((((w35.setCell ⟨gb111, 0, none⟩ (.bool a0_0)).setCell ⟨gb111, 1, none⟩ (.int .u64 a0_1)).setCell ⟨gb111, 2, none⟩ (.int .u64 a0_2)).setCell ⟨gb111, 3, none⟩ (.int .i64 a0_3)).setCell ⟨gb112, 0, none⟩ (.bool a0_0)).setCell ⟨gb112, 1, none⟩ (.int .u64 a0_1)).setCell ⟨gb112, 2, none⟩ (.int .u64 a0_2)).setCell ⟨gb112, 3, none⟩ (.int .i64 a0_3)).setCell ⟨gb111, 3, none⟩ (.int .i64 (wrap64 (a0_3 + 1)))).setCell ⟨gb112, 3, none⟩ (.int .i64 (wrap64 (a0_3 + 1)))).heap[gb111]? = some (.cells #[.bool a0_0, .int .u64 a0_1, .int .u64 a0_2, .int .i64 (wrap64 (a0_3 + 1))] 38 (0, 0))) := ⟨by refine pw_ ?_; refine blk_far ?_ NB111_112.out _; refine pw_ ?_; refine blk_put (cs := #[.bool a0_0, .int .u64 a0_1, .int .u64 a0_2, .int .i64 a0_3]) ?_ 3 _ rfl; refine pw_ ?_; refine blk_far ?_ NB111_112.out _; refine pw_ ?_; refine blk_far ?_ NB111_112.out _; refine pw_ ?_; refine blk_far ?_ NB111_112.out _; refine pw_ ?_; refine blk_far ?_ NB111_112.out _; refine pw_ ?_; refine blk_put (cs := #[.bool a0_0, .int .u64 a0_1, .int .u64 a0_2, .int .i64 0]) ?_ 3 _ rfl; refine pw_ ?_; refine blk_put (cs := #[.bool a0_0, .int .u64 a0_1, .int .u64 0, .int .i64 0]) ?_ 2 _ rfl; refine pw_ ?_; refine blk_put (cs := #[.bool a0_0, .int .u64 0, .int .u64 0, .int .i64 0]) ?_ 1 _ rfl; refine pw_ ?_; refine blk_put (cs := #[.bool false, .int .u64 0, .int .u64 0, .int .i64 0]) ?_ 0 _ rfl; refine pw_ ?_; exact BK111.out⟩
   have n4_ : Aside0 (((((((((((w35.setCell ⟨gb111, 0, none⟩ (.bool a0_0)).setCell ⟨gb111, 1, none⟩ (.int .u64 a0_1)).setCell ⟨gb111, 2, none⟩ (.int .u64 a0_2)).setCell ⟨gb111, 3, none⟩ (.int .i64 a0_3)).setCell ⟨gb112, 0, none⟩ (.bool a0_0)).setCell ⟨gb112, 1, none⟩ (.int .u64 a0_1)).setCell ⟨gb112, 2, none⟩ (.int .u64 a0_2)).setCell ⟨gb112, 3, none⟩ (.int .i64 a0_3)).setCell ⟨gb111, 3, none⟩ (.int .i64 (wrap64 (a0_3 + 1)))).setCell ⟨gb112, 3, none⟩ (.int .i64 (wrap64 (a0_3 + 1)))).heap[gb112]? = some (.cells #[.bool a0_0, .int .u64 a0_1, .int .u64 a0_2, .int .i64 (wrap64 (a0_3 + 1))] 38 (0, 0))) := ⟨by refine pw_ ?_; refine blk_put (cs := #[.bool a0_0, .int .u64 a0_1, .int .u64 a0_2, .int .i64 a0_3]) ?_ 3 _ rfl; refine pw_ ?_; refine blk_far ?_ NB112_111.out _; refine pw_ ?_; refine blk_put (cs := #[.bool a0_0, .int .u64 a0_1, .int .u64 a0_2, .int .i64 0]) ?_ 3 _ rfl; refine pw_ ?_; refine blk_put (cs := #[.bool a0_0, .int .u64 a0_1, .int .u64 0, .int .i64 0]) ?_ 2 _ rfl; refine pw_ ?_; refine blk_put (cs := #[.bool a0_0, .int .u64 0, .int .u64 0, .int .i64 0]) ?_ 1 _ rfl; refine pw_ ?_; refine blk_put (cs := #[.bool false, .int .u64 0, .int .u64 0, .int .i64 0]) ?_ 0 _ rfl; refine pw_ ?_; refine blk_far ?_ NB112_111.out _; refine pw_ ?_; refine blk_far ?_ NB112_111.out _; refine pw_ ?_; refine blk_far ?_ NB112_111.out _; refine pw_ ?_; refine blk_far ?_ NB112_111.out _; refine pw_ ?_; exact BK112.out⟩
   have n5_ : Aside0 (Below w.heap.size w ((((((((((w35.setCell ⟨gb111, 0, none⟩ (.bool a0_0)).setCell ⟨gb111, 1, none⟩ (.int .u64 a0_1)).setCell ⟨gb111, 2, none⟩ (.int .u64 a0_2)).setCell ⟨gb111, 3, none⟩ (.int .i64 a0_3)).setCell ⟨gb112, 0, none⟩ (.bool a0_0)).setCell ⟨gb112, 1, none⟩ (.int .u64 a0_1)).setCell ⟨gb112, 2, none⟩ (.int .u64 a0_2)).setCell ⟨gb112, 3, none⟩ (.int .i64 a0_3)).setCell ⟨gb111, 3, none⟩ (.int .i64 (wrap64 (a0_3 + 1)))).setCell ⟨gb112, 3, none⟩ (.int .i64 (wrap64 (a0_3 + 1))))) := ⟨pb_ HB⟩
   (try clear BK106)
   (try clear BK107)
   (try clear BK108)
   (try clear BK111)
   (try clear BK112)
   (try clear HB)
   generalize ((((((((((w35.setCell ⟨gb111, 0, none⟩ (.bool a0_0)).setCell ⟨gb111, 1, none⟩ (.int .u64 a0_1)).setCell ⟨gb111, 2, none⟩ (.int .u64 a0_2)).setCell ⟨gb111, 3, none⟩ (.int .i64 a0_3)).setCell ⟨gb112, 0, none⟩ (.bool a0_0)).setCell ⟨gb112, 1, none⟩ (.int .u64 a0_1)).setCell ⟨gb112, 2, none⟩ (.int .u64 a0_2)).setCell ⟨gb112, 3, none⟩ (.int .i64 a0_3)).setCell ⟨gb111, 3, none⟩ (.int .i64 (wrap64 (a0_3 + 1)))).setCell ⟨gb112, 3, none⟩ (.int .i64 (wrap64 (a0_3 + 1)))) = w53 at n0_ n1_ n2_ n3_ n4_ n5_ ⊢
   have BK106 := n0_
   have BK107 := n1_
   have BK108 := n2_
   have BK111 := n3_
   have BK112 := n4_
   have HB := n5_
   clear n0_ n1_ n2_ n3_ n4_ n5_
   replace BK106 := Aside0.mk (blk_drew BK106.out)
   replace BK107 := Aside0.mk (blk_drew BK107.out)
   replace BK108 := Aside0.mk (blk_drew BK108.out)
   replace BK111 := Aside0.mk (blk_drew BK111.out)
   replace BK112 := Aside0.mk (blk_drew BK112.out)
   replace HB := Aside0.mk (below_drew1 HB.out)
   refine start_ (n := 13) (S := fun w' => w'.cell? ⟨gb112, 0, none⟩ = some (.bool a0_0) ∧ w'.cell? ⟨gb112, 1, none⟩ = some (.int .u64 a0_1) ∧ w'.cell? ⟨gb112, 2, none⟩ = some (.int .u64 a0_2) ∧ w'.cell? ⟨gb112, 3, none⟩ = some (.int .i64 (wrap64 (a0_3 + 1)))) (ds := [12]) (bm_ 13 0) (by kernel_rfl) rfl rfl ⟨kc_ BK112 0, kc_ BK112 1, kc_ BK112 2, kc_ BK112 3⟩ (fun hHeld => ?_); refine with_tabW prefix_Halves.tab9 prefix_Halves.bits9 (fun HT_ HW_ => ?_)
   generalize w53.drew = w54 at BK106 BK107 BK108 BK111 BK112 HB hHeld ⊢
   refine pu_ 0 (some 34) (bm_ 13 1) rfl HT_ ⟨by rfl, by intro w'; go_simp; with_reducible rfl⟩ ?_
   refine pu_ 1 (some 35) (bm_ 13 3) rfl HT_ ⟨by rfl, by intro w'; go_simp; with_reducible rfl⟩ ?_
   refine pu_ 4 (some 38) (bm_ 13 19) rfl HT_ ⟨by rfl, by intro w'; go_simp; with_reducible rfl⟩ ?_
   refine pu_ 5 (some 39) (bm_ 13 51) rfl HT_ ⟨by rfl, by intro w'; go_simp; with_reducible rfl⟩ ?_
   refine ta_ 2 (some 36) (bm_ 13 55) rfl HT_ HW_ ⟨by rfl, by rintro w' ⟨s0, s1, s2, s3⟩; go_simp; with_reducible rfl⟩ hHeld ?_
   refine ta_ 6 (some 40) (bm_ 13 119) rfl HT_ HW_ ⟨by rfl, by rintro w' ⟨s0, s1, s2, s3⟩; go_simp; with_reducible rfl⟩ hHeld ?_
   refine pu_ 7 (some 41) (bm_ 13 247) rfl HT_ ⟨by rfl, by intro w'; go_simp; with_reducible rfl⟩ ?_
   refine one_ (i := 3) (N := some 37) (bm_ 13 255) rfl rfl (one_of HT_.out (by kernel_rfl)) (by decide) (fun K hK => ?_)
   refine gr_ Tryz.func59 #[.int .u64 1] ?_
   with_reducible refine (num_Of.calls 1 t113 t114 _ A19.out).mono ?_
   rintro e w55 ⟨rfl, hb⟩
   refine ⟨_, rfl, ?_⟩
   replace BK106 := bb_ BK106 hb
   replace BK107 := bb_ BK107 hb
   replace BK108 := bb_ BK108 hb
   replace BK111 := bb_ BK111 hb
   replace BK112 := bb_ BK112 hb
   replace HB := bs_ HB hb
   (try clear hb)
   (try clear hb2)
   (try clear hk)
   (try clear hi)
   refine hK.out _ _ ⟨kc_ BK112 0, kc_ BK112 1, kc_ BK112 2, kc_ BK112 3⟩ (fun hHeld => ?_)
   clear hK K
   refine norm_ (a' := ?_) ?_ ?_
   rotate_left
   ·
    show Act.put _ (some 37) _ = _
    simp only [Act.put, List.setIfInBounds_toArray, List.set_cons_zero, List.set_cons_succ, i64_w, i32_w]
    rfl
   refine one_ (i := 8) (N := some 42) (bm_ 13 511) rfl rfl (one_of HT_.out (by kernel_rfl)) (by decide) (fun K hK => ?_)
   refine gr_ Tryz.func84 #[.agg #[.int .u64 t113, .int .u64 t114], .int .i64 (wrap64 (t109 - (wrap64 (a0_3 + 1))))] ?_
   with_reducible refine (num_Shl.calls t113 t114 (wrap64 (t109 - (wrap64 (a0_3 + 1)))) t115 t116 _ A20.out).mono ?_
   rintro e w56 ⟨rfl, hb⟩
   refine ⟨_, rfl, ?_⟩
   replace BK106 := bb_ BK106 hb
   replace BK107 := bb_ BK107 hb
   replace BK108 := bb_ BK108 hb
   replace BK111 := bb_ BK111 hb
   replace BK112 := bb_ BK112 hb
   replace HB := bs_ HB hb
   (try clear hb)
   (try clear hb2)
   (try clear hk)
   (try clear hi)
   refine hK.out _ _ ⟨kc_ BK112 0, kc_ BK112 1, kc_ BK112 2, kc_ BK112 3⟩ (fun hHeld => ?_)
   clear hK K
   refine norm_ (a' := ?_) ?_ ?_
   rotate_left
   ·
    show Act.put _ (some 42) _ = _
    simp only [Act.put, List.setIfInBounds_toArray, List.set_cons_zero, List.set_cons_succ, i64_w, i32_w]
    rfl
   refine one_ (i := 9) (N := some 43) (bm_ 13 1023) rfl rfl (one_of HT_.out (by kernel_rfl)) (by decide) (fun K hK => ?_)
   refine gr_ Tryz.func80 #[.agg #[.int .u64 a0_1, .int .u64 a0_2], .agg #[.int .u64 t115, .int .u64 t116]] ?_
   with_reducible refine (num_Or.calls a0_1 a0_2 t115 t116 t117 t118 _ A21.out).mono ?_
   rintro e w57 ⟨rfl, hb⟩
   refine ⟨_, rfl, ?_⟩
   replace BK106 := bb_ BK106 hb
   replace BK107 := bb_ BK107 hb
   replace BK108 := bb_ BK108 hb
   replace BK111 := bb_ BK111 hb
   replace BK112 := bb_ BK112 hb
   replace HB := bs_ HB hb
   (try clear hb)
   (try clear hb2)
   (try clear hk)
   (try clear hi)
   refine hK.out _ _ ⟨kc_ BK112 0, kc_ BK112 1, kc_ BK112 2, kc_ BK112 3⟩ (fun hHeld => ?_)
   clear hK K
   refine norm_ (a' := ?_) ?_ ?_
   rotate_left
   ·
    show Act.put _ (some 43) _ = _
    simp only [Act.put, List.setIfInBounds_toArray, List.set_cons_zero, List.set_cons_succ, i64_w, i32_w]
    rfl
   refine pu_ 10 (some 44) (bm_ 13 2047) rfl HT_ ⟨by rfl, by intro w'; go_simp; with_reducible rfl⟩ ?_
   refine pu_ 11 (some 45) (bm_ 13 4095) rfl HT_ ⟨by rfl, by intro w'; go_simp; with_reducible rfl⟩ ?_
   refine last_ (i := 12) (N := none) (bm_ 13 8191) rfl rfl (one_of HT_.out (by kernel_rfl)) (by decide) (fun K hK => ?_)
   have hs58 : w57.cell? ⟨gb112, 1, none⟩ = some (.int .u64 a0_1) := kc_ BK112 1
   have hfs58 := blk_frozen BK112.out 1
   have hns58_0 := NB106_112.out
   have hns58_1 := NB107_112.out
   have hns58_2 := NB108_112.out
   have hns58_3 := NB111_112.out
   have hms58_0 := NB112_106.out
   have hms58_1 := NB112_107.out
   have hms58_2 := NB112_108.out
   have hms58_3 := NB112_111.out
   have hs59 : w57.cell? ⟨gb112, 2, none⟩ = some (.int .u64 a0_2) := kc_ BK112 2
   have hfs59 := blk_frozen BK112.out 2
   have hns59_0 := NB106_112.out
   have hns59_1 := NB107_112.out
   have hns59_2 := NB108_112.out
   have hns59_3 := NB111_112.out
   have hms59_0 := NB112_106.out
   have hms59_1 := NB112_107.out
   have hms59_2 := NB112_108.out
   have hms59_3 := NB112_111.out
   refine skip_ (w1 := ?_) (by rfl) rfl ?_ ?_
   rotate_left
   ·
    go_simp
    rfl
   refine hK.out _ _ ?_
   clear hK K
   refine done_ (done_of HT_.out (by kernel_rfl)) ?_
   try go_wp2
   have n0_ : Aside0 (((w57.setCell ⟨gb112, 1, none⟩ (.int .u64 t117)).setCell ⟨gb112, 2, none⟩ (.int .u64 t118)).heap[gb106]? = some (.cells #[.bool a0_0, .int .u64 a0_1, .int .u64 a0_2, .int .i64 a0_3] 38 (0, 0))) := ⟨by refine pw_ ?_; refine blk_far ?_ NB106_112.out _; refine pw_ ?_; refine blk_far ?_ NB106_112.out _; refine pw_ ?_; exact BK106.out⟩
   have n1_ : Aside0 (((w57.setCell ⟨gb112, 1, none⟩ (.int .u64 t117)).setCell ⟨gb112, 2, none⟩ (.int .u64 t118)).heap[gb107]? = some (.cells #[.bool false, .int .u64 0, .int .u64 0, .int .i64 0] 38 (0, 0))) := ⟨by refine pw_ ?_; refine blk_far ?_ NB107_112.out _; refine pw_ ?_; refine blk_far ?_ NB107_112.out _; refine pw_ ?_; exact BK107.out⟩
   have n2_ : Aside0 (((w57.setCell ⟨gb112, 1, none⟩ (.int .u64 t117)).setCell ⟨gb112, 2, none⟩ (.int .u64 t118)).heap[gb108]? = some (.cells #[.bool false, .int .u64 0, .int .u64 0, .int .i64 0] 38 (0, 0))) := ⟨by refine pw_ ?_; refine blk_far ?_ NB108_112.out _; refine pw_ ?_; refine blk_far ?_ NB108_112.out _; refine pw_ ?_; exact BK108.out⟩
   have n3_ : Aside0 (((w57.setCell ⟨gb112, 1, none⟩ (.int .u64 t117)).setCell ⟨gb112, 2, none⟩ (.int .u64 t118)).heap[gb111]? = some (.cells #[.bool a0_0, .int .u64 a0_1, .int .u64 a0_2, .int .i64 (wrap64 (a0_3 + 1))] 38 (0, 0))) := ⟨by refine pw_ ?_; refine blk_far ?_ NB111_112.out _; refine pw_ ?_; refine blk_far ?_ NB111_112.out _; refine pw_ ?_; exact BK111.out⟩
   have n4_ : Aside0 (((w57.setCell ⟨gb112, 1, none⟩ (.int .u64 t117)).setCell ⟨gb112, 2, none⟩ (.int .u64 t118)).heap[gb112]? = some (.cells #[.bool a0_0, .int .u64 t117, .int .u64 t118, .int .i64 (wrap64 (a0_3 + 1))] 38 (0, 0))) := ⟨by refine pw_ ?_; refine blk_put (cs := #[.bool a0_0, .int .u64 t117, .int .u64 a0_2, .int .i64 (wrap64 (a0_3 + 1))]) ?_ 2 _ rfl; refine pw_ ?_; refine blk_put (cs := #[.bool a0_0, .int .u64 a0_1, .int .u64 a0_2, .int .i64 (wrap64 (a0_3 + 1))]) ?_ 1 _ rfl; refine pw_ ?_; exact BK112.out⟩
   have n5_ : Aside0 (Below w.heap.size w ((w57.setCell ⟨gb112, 1, none⟩ (.int .u64 t117)).setCell ⟨gb112, 2, none⟩ (.int .u64 t118))) := ⟨pb_ HB⟩
   (try clear BK106)
   (try clear BK107)
   (try clear BK108)
   (try clear BK111)
   (try clear BK112)
   (try clear HB)
   generalize ((w57.setCell ⟨gb112, 1, none⟩ (.int .u64 t117)).setCell ⟨gb112, 2, none⟩ (.int .u64 t118)) = w60 at n0_ n1_ n2_ n3_ n4_ n5_ ⊢
   have BK106 := n0_
   have BK107 := n1_
   have BK108 := n2_
   have BK111 := n3_
   have BK112 := n4_
   have HB := n5_
   clear n0_ n1_ n2_ n3_ n4_ n5_
   replace BK106 := Aside0.mk (blk_drew BK106.out)
   replace BK107 := Aside0.mk (blk_drew BK107.out)
   replace BK108 := Aside0.mk (blk_drew BK108.out)
   replace BK111 := Aside0.mk (blk_drew BK111.out)
   replace BK112 := Aside0.mk (blk_drew BK112.out)
   replace HB := Aside0.mk (below_drew1 HB.out)
   refine start_ (n := 5) (S := fun w' => w'.cell? ⟨gb111, 0, none⟩ = some (.bool a0_0) ∧ w'.cell? ⟨gb111, 1, none⟩ = some (.int .u64 a0_1) ∧ w'.cell? ⟨gb111, 2, none⟩ = some (.int .u64 a0_2) ∧ w'.cell? ⟨gb111, 3, none⟩ = some (.int .i64 (wrap64 (a0_3 + 1))) ∧ w'.cell? ⟨gb112, 0, none⟩ = some (.bool a0_0) ∧ w'.cell? ⟨gb112, 1, none⟩ = some (.int .u64 t117) ∧ w'.cell? ⟨gb112, 2, none⟩ = some (.int .u64 t118) ∧ w'.cell? ⟨gb112, 3, none⟩ = some (.int .i64 (wrap64 (a0_3 + 1)))) (ds := []) #[false, false, false, false, false] (by kernel_rfl) rfl rfl ⟨kc_ BK111 0, kc_ BK111 1, kc_ BK111 2, kc_ BK111 3, kc_ BK112 0, kc_ BK112 1, kc_ BK112 2, kc_ BK112 3⟩ (fun hHeld => ?_)
   generalize w60.drew = w61 at BK106 BK107 BK108 BK111 BK112 HB hHeld ⊢
   refine take_ (i := 0) (N := some 46) (v := ?_) (a' := ?_) #[true, false, false, false, false] rfl rfl (by kernel_rfl) (fun _ _ _ h => h) (Or.inl ⟨by rfl, ?_⟩) hHeld ?_ ?_
   rotate_left
   ·
    rintro w' ⟨s0, s1, s2, s3, s4, s5, s6, s7⟩
    go_simp
    with_reducible rfl
   rotate_left
   ·
    simp only [Act.put, List.setIfInBounds_toArray, List.set_cons_zero, List.set_cons_succ, i64_w, i32_w]
    rfl
   refine take_ (i := 1) (N := some 47) (v := ?_) (a' := ?_) #[true, true, false, false, false] rfl rfl (by kernel_rfl) (fun _ _ _ h => h) (Or.inl ⟨by rfl, ?_⟩) hHeld ?_ ?_
   rotate_left
   ·
    rintro w' ⟨s0, s1, s2, s3, s4, s5, s6, s7⟩
    go_simp
    with_reducible rfl
   rotate_left
   ·
    simp only [Act.put, List.setIfInBounds_toArray, List.set_cons_zero, List.set_cons_succ, i64_w, i32_w]
    rfl
   refine one_ (i := 2) (N := none) #[true, true, true, false, false] rfl rfl (by kernel_rfl) (by decide) (fun K hK => ?_)
   have hs62 : w61.cell? ⟨gb107, 0, none⟩ = some (.bool false) := kc_ BK107 0
   have hfs62 := blk_frozen BK107.out 0
   have hns62_0 := NB106_107.out
   have hns62_2 := NB108_107.out
   have hns62_3 := NB111_107.out
   have hns62_4 := NB112_107.out
   have hms62_0 := NB107_106.out
   have hms62_2 := NB107_108.out
   have hms62_3 := NB107_111.out
   have hms62_4 := NB107_112.out
   have hs63 : w61.cell? ⟨gb107, 1, none⟩ = some (.int .u64 0) := kc_ BK107 1
   have hfs63 := blk_frozen BK107.out 1
   have hns63_0 := NB106_107.out
   have hns63_2 := NB108_107.out
   have hns63_3 := NB111_107.out
   have hns63_4 := NB112_107.out
   have hms63_0 := NB107_106.out
   have hms63_2 := NB107_108.out
   have hms63_3 := NB107_111.out
   have hms63_4 := NB107_112.out
   have hs64 : w61.cell? ⟨gb107, 2, none⟩ = some (.int .u64 0) := kc_ BK107 2
   have hfs64 := blk_frozen BK107.out 2
   have hns64_0 := NB106_107.out
   have hns64_2 := NB108_107.out
   have hns64_3 := NB111_107.out
   have hns64_4 := NB112_107.out
   have hms64_0 := NB107_106.out
   have hms64_2 := NB107_108.out
   have hms64_3 := NB107_111.out
   have hms64_4 := NB107_112.out
   have hs65 : w61.cell? ⟨gb107, 3, none⟩ = some (.int .i64 0) := kc_ BK107 3
   have hfs65 := blk_frozen BK107.out 3
   have hns65_0 := NB106_107.out
   have hns65_2 := NB108_107.out
   have hns65_3 := NB111_107.out
   have hns65_4 := NB112_107.out
   have hms65_0 := NB107_106.out
   have hms65_2 := NB107_108.out
   have hms65_3 := NB107_111.out
   have hms65_4 := NB107_112.out
   refine skip_ (w1 := ?_) (by rfl) rfl ?_ ?_
   rotate_left
   ·
    go_simp
    rfl
   refine hK.out _ _ ⟨((cell_far (p := ⟨gb107, _, none⟩) NB111_107.out _).trans (((cell_far (p := ⟨gb107, _, none⟩) NB111_107.out _).trans (((cell_far (p := ⟨gb107, _, none⟩) NB111_107.out _).trans (((cell_far (p := ⟨gb107, _, none⟩) NB111_107.out _).trans (hHeld.1)))))))), ((cell_far (p := ⟨gb107, _, none⟩) NB111_107.out _).trans (((cell_far (p := ⟨gb107, _, none⟩) NB111_107.out _).trans (((cell_far (p := ⟨gb107, _, none⟩) NB111_107.out _).trans (((cell_far (p := ⟨gb107, _, none⟩) NB111_107.out _).trans (hHeld.2.1)))))))), ((cell_far (p := ⟨gb107, _, none⟩) NB111_107.out _).trans (((cell_far (p := ⟨gb107, _, none⟩) NB111_107.out _).trans (((cell_far (p := ⟨gb107, _, none⟩) NB111_107.out _).trans (((cell_far (p := ⟨gb107, _, none⟩) NB111_107.out _).trans (hHeld.2.2.1)))))))), ((cell_far (p := ⟨gb107, _, none⟩) NB111_107.out _).trans (((cell_far (p := ⟨gb107, _, none⟩) NB111_107.out _).trans (((cell_far (p := ⟨gb107, _, none⟩) NB111_107.out _).trans (((cell_far (p := ⟨gb107, _, none⟩) NB111_107.out _).trans (hHeld.2.2.2.1)))))))), ((cell_far (p := ⟨gb107, _, none⟩) NB112_107.out _).trans (((cell_far (p := ⟨gb107, _, none⟩) NB112_107.out _).trans (((cell_far (p := ⟨gb107, _, none⟩) NB112_107.out _).trans (((cell_far (p := ⟨gb107, _, none⟩) NB112_107.out _).trans (hHeld.2.2.2.2.1)))))))), ((cell_far (p := ⟨gb107, _, none⟩) NB112_107.out _).trans (((cell_far (p := ⟨gb107, _, none⟩) NB112_107.out _).trans (((cell_far (p := ⟨gb107, _, none⟩) NB112_107.out _).trans (((cell_far (p := ⟨gb107, _, none⟩) NB112_107.out _).trans (hHeld.2.2.2.2.2.1)))))))), ((cell_far (p := ⟨gb107, _, none⟩) NB112_107.out _).trans (((cell_far (p := ⟨gb107, _, none⟩) NB112_107.out _).trans (((cell_far (p := ⟨gb107, _, none⟩) NB112_107.out _).trans (((cell_far (p := ⟨gb107, _, none⟩) NB112_107.out _).trans (hHeld.2.2.2.2.2.2.1)))))))), ((cell_far (p := ⟨gb107, _, none⟩) NB112_107.out _).trans (((cell_far (p := ⟨gb107, _, none⟩) NB112_107.out _).trans (((cell_far (p := ⟨gb107, _, none⟩) NB112_107.out _).trans (((cell_far (p := ⟨gb107, _, none⟩) NB112_107.out _).trans (hHeld.2.2.2.2.2.2.2))))))))⟩ (fun hHeld => ?_)
   clear hK K
   refine one_ (i := 3) (N := none) #[true, true, true, true, false] rfl rfl (by kernel_rfl) (by decide) (fun K hK => ?_)
   have hs66 : w61.cell? ⟨gb108, 0, none⟩ = some (.bool false) := kc_ BK108 0
   have hfs66 := blk_frozen BK108.out 0
   have hns66_0 := NB106_108.out
   have hns66_1 := NB107_108.out
   have hns66_3 := NB111_108.out
   have hns66_4 := NB112_108.out
   have hms66_0 := NB108_106.out
   have hms66_1 := NB108_107.out
   have hms66_3 := NB108_111.out
   have hms66_4 := NB108_112.out
   have hs67 : w61.cell? ⟨gb108, 1, none⟩ = some (.int .u64 0) := kc_ BK108 1
   have hfs67 := blk_frozen BK108.out 1
   have hns67_0 := NB106_108.out
   have hns67_1 := NB107_108.out
   have hns67_3 := NB111_108.out
   have hns67_4 := NB112_108.out
   have hms67_0 := NB108_106.out
   have hms67_1 := NB108_107.out
   have hms67_3 := NB108_111.out
   have hms67_4 := NB108_112.out
   have hs68 : w61.cell? ⟨gb108, 2, none⟩ = some (.int .u64 0) := kc_ BK108 2
   have hfs68 := blk_frozen BK108.out 2
   have hns68_0 := NB106_108.out
   have hns68_1 := NB107_108.out
   have hns68_3 := NB111_108.out
   have hns68_4 := NB112_108.out
   have hms68_0 := NB108_106.out
   have hms68_1 := NB108_107.out
   have hms68_3 := NB108_111.out
   have hms68_4 := NB108_112.out
   have hs69 : w61.cell? ⟨gb108, 3, none⟩ = some (.int .i64 0) := kc_ BK108 3
   have hfs69 := blk_frozen BK108.out 3
   have hns69_0 := NB106_108.out
   have hns69_1 := NB107_108.out
   have hns69_3 := NB111_108.out
   have hns69_4 := NB112_108.out
   have hms69_0 := NB108_106.out
   have hms69_1 := NB108_107.out
   have hms69_3 := NB108_111.out
   have hms69_4 := NB108_112.out
   refine skip_ (w1 := ?_) (by rfl) rfl ?_ ?_
   rotate_left
   ·
    go_simp
    rfl
   refine hK.out _ _ ⟨((cell_far (p := ⟨gb108, _, none⟩) NB111_108.out _).trans (((cell_far (p := ⟨gb108, _, none⟩) NB111_108.out _).trans (((cell_far (p := ⟨gb108, _, none⟩) NB111_108.out _).trans (((cell_far (p := ⟨gb108, _, none⟩) NB111_108.out _).trans (hHeld.1)))))))), ((cell_far (p := ⟨gb108, _, none⟩) NB111_108.out _).trans (((cell_far (p := ⟨gb108, _, none⟩) NB111_108.out _).trans (((cell_far (p := ⟨gb108, _, none⟩) NB111_108.out _).trans (((cell_far (p := ⟨gb108, _, none⟩) NB111_108.out _).trans (hHeld.2.1)))))))), ((cell_far (p := ⟨gb108, _, none⟩) NB111_108.out _).trans (((cell_far (p := ⟨gb108, _, none⟩) NB111_108.out _).trans (((cell_far (p := ⟨gb108, _, none⟩) NB111_108.out _).trans (((cell_far (p := ⟨gb108, _, none⟩) NB111_108.out _).trans (hHeld.2.2.1)))))))), ((cell_far (p := ⟨gb108, _, none⟩) NB111_108.out _).trans (((cell_far (p := ⟨gb108, _, none⟩) NB111_108.out _).trans (((cell_far (p := ⟨gb108, _, none⟩) NB111_108.out _).trans (((cell_far (p := ⟨gb108, _, none⟩) NB111_108.out _).trans (hHeld.2.2.2.1)))))))), ((cell_far (p := ⟨gb108, _, none⟩) NB112_108.out _).trans (((cell_far (p := ⟨gb108, _, none⟩) NB112_108.out _).trans (((cell_far (p := ⟨gb108, _, none⟩) NB112_108.out _).trans (((cell_far (p := ⟨gb108, _, none⟩) NB112_108.out _).trans (hHeld.2.2.2.2.1)))))))), ((cell_far (p := ⟨gb108, _, none⟩) NB112_108.out _).trans (((cell_far (p := ⟨gb108, _, none⟩) NB112_108.out _).trans (((cell_far (p := ⟨gb108, _, none⟩) NB112_108.out _).trans (((cell_far (p := ⟨gb108, _, none⟩) NB112_108.out _).trans (hHeld.2.2.2.2.2.1)))))))), ((cell_far (p := ⟨gb108, _, none⟩) NB112_108.out _).trans (((cell_far (p := ⟨gb108, _, none⟩) NB112_108.out _).trans (((cell_far (p := ⟨gb108, _, none⟩) NB112_108.out _).trans (((cell_far (p := ⟨gb108, _, none⟩) NB112_108.out _).trans (hHeld.2.2.2.2.2.2.1)))))))), ((cell_far (p := ⟨gb108, _, none⟩) NB112_108.out _).trans (((cell_far (p := ⟨gb108, _, none⟩) NB112_108.out _).trans (((cell_far (p := ⟨gb108, _, none⟩) NB112_108.out _).trans (((cell_far (p := ⟨gb108, _, none⟩) NB112_108.out _).trans (hHeld.2.2.2.2.2.2.2))))))))⟩ (fun hHeld => ?_)
   clear hK K
   refine pure_ (i := 4) (N := some 4) (v := ?_) (a' := ?_) #[true, true, true, true, true] rfl rfl (by kernel_rfl) (fun _ _ _ h => h) (Or.inl ⟨by rfl, ?_⟩) ?_ ?_
   rotate_left
   ·
    intro w'
    go_simp
    with_reducible rfl
   rotate_left
   ·
    simp only [Act.put, List.setIfInBounds_toArray, List.set_cons_zero, List.set_cons_succ, i64_w, i32_w]
    rfl
   refine done_ (by kernel_rfl) ?_
   try go_wp2
   refine bodyPost_ret (results_list (rs := [.cell 2 38, .cell 3 38, .tmp 4]) rfl (by simp) (.cell gb107 38 #[.bool a0_0, .int .u64 a0_1, .int .u64 a0_2, .int .i64 (wrap64 (a0_3 + 1))] (0, 0) _ rfl (by refine pw_ ?_; refine blk_far ?_ NB107_108.out _; refine pw_ ?_; refine blk_far ?_ NB107_108.out _; refine pw_ ?_; refine blk_far ?_ NB107_108.out _; refine pw_ ?_; refine blk_far ?_ NB107_108.out _; refine pw_ ?_; refine blk_put (cs := #[.bool a0_0, .int .u64 a0_1, .int .u64 a0_2, .int .i64 0]) ?_ 3 _ rfl; refine pw_ ?_; refine blk_put (cs := #[.bool a0_0, .int .u64 a0_1, .int .u64 0, .int .i64 0]) ?_ 2 _ rfl; refine pw_ ?_; refine blk_put (cs := #[.bool a0_0, .int .u64 0, .int .u64 0, .int .i64 0]) ?_ 1 _ rfl; refine pw_ ?_; refine blk_put (cs := #[.bool false, .int .u64 0, .int .u64 0, .int .i64 0]) ?_ 0 _ rfl; refine pw_ ?_; exact BK107.out) Tryz.underlying38 rfl (by kernel_rfl) (.cell gb108 38 #[.bool a0_0, .int .u64 t117, .int .u64 t118, .int .i64 (wrap64 (a0_3 + 1))] (0, 0) _ rfl (by refine pw_ ?_; refine blk_put (cs := #[.bool a0_0, .int .u64 t117, .int .u64 t118, .int .i64 0]) ?_ 3 _ rfl; refine pw_ ?_; refine blk_put (cs := #[.bool a0_0, .int .u64 t117, .int .u64 0, .int .i64 0]) ?_ 2 _ rfl; refine pw_ ?_; refine blk_put (cs := #[.bool a0_0, .int .u64 0, .int .u64 0, .int .i64 0]) ?_ 1 _ rfl; refine pw_ ?_; refine blk_put (cs := #[.bool false, .int .u64 0, .int .u64 0, .int .i64 0]) ?_ 0 _ rfl; refine pw_ ?_; refine blk_far ?_ NB108_107.out _; refine pw_ ?_; refine blk_far ?_ NB108_107.out _; refine pw_ ?_; refine blk_far ?_ NB108_107.out _; refine pw_ ?_; refine blk_far ?_ NB108_107.out _; refine pw_ ?_; exact BK108.out) Tryz.underlying38 rfl (by kernel_rfl) (.tmp .nil)))) rfl ?_
   exact ⟨by first | rfl | (simp [errW_none, errW_some] <;> rfl) | (simp [*, errW_none, errW_some] <;> rfl), pb_ HB⟩
 ·
  replace c4 := Bool.eq_false_iff.mpr c4
  subst c4
  have H1 : (some (false, 0, 0, 0, false, 0, 0, 0, 1)) = some (r1, r2, r3, r4, r5, r6, r7, r8, r9) := by rw [if_neg (show ¬ (false = true) by decide)] at H; exact H
  clear H
  have H := H1
  clear H1
  simp only [Option.some.injEq, Prod.mk.injEq] at H
  obtain ⟨rfl, rfl, rfl, rfl, rfl, rfl, rfl, rfl, rfl⟩ := H
  go_enter Tryz.func33, Tryz.ntmps33
  go_wp2_with (first | ((with_reducible refine gate_dst (N := 1) rfl ?_); refine bx_ 1 #[.bool a0_0, .int .u64 a0_1, .int .u64 a0_2, .int .i64 a0_3] 38 ?_; intro gb106 hg w70 hbox hb; have BK106 := Aside0.mk (hbox); have GW106 := gw_ HB hg; have GE106 := gw_ HB hg; replace HB := bs_ HB hb; clear hb hbox hg) | ((with_reducible refine gate_dst (N := 2) rfl ?_); refine bx_ 2 #[.bool false, .int .u64 0, .int .u64 0, .int .i64 0] 38 ?_; intro gb107 hg w71 hbox hb; have BK107 := Aside0.mk (hbox); have GW107 := gw_ HB hg; have GE107 := gw_ HB hg; have NB106_107 := nl_ BK106 hg; have NB107_106 := ng_ BK106 hg; replace BK106 := bb_ BK106 hb; replace HB := bs_ HB hb; clear hb hbox hg) | ((with_reducible refine gate_dst (N := 3) rfl ?_); refine bx_ 3 #[.bool false, .int .u64 0, .int .u64 0, .int .i64 0] 38 ?_; intro gb108 hg w72 hbox hb; have BK108 := Aside0.mk (hbox); have GW108 := gw_ HB hg; have GE108 := gw_ HB hg; have NB106_108 := nl_ BK106 hg; have NB108_106 := ng_ BK106 hg; have NB107_108 := nl_ BK107 hg; have NB108_107 := ng_ BK107 hg; replace BK106 := bb_ BK106 hb; replace BK107 := bb_ BK107 hb; replace HB := bs_ HB hb; clear hb hbox hg; have hnb73 := NB106_107.out; have hnc73 := NB107_106.out; have hnb74 := NB106_108.out; have hnc74 := NB108_106.out; obtain ⟨hcz75_0, hcz75_1, hcz75_2, hcz75_3, hfz75_0, hfz75_1, hfz75_2, hfz75_3⟩ := c4_ BK106) | ((with_reducible refine gate_callee (f := 22) rfl ?_); refine gl_ (some 10) Tryz.func22 #[.agg #[.bool a0_0, .int .u64 a0_1, .int .u64 a0_2]] ?_; (with_reducible refine (addr_Width.calls a0_0 a0_1 a0_2 t109 _ A2.out).mono ?_); rintro e w76 ⟨rfl, hb⟩; refine ⟨_, rfl, ?_⟩; replace BK106 := bb_ BK106 hb; replace BK107 := bb_ BK107 hb; replace BK108 := bb_ BK108 hb; replace HB := bs_ HB hb; (try clear hb); (try clear hb2); (try clear hk); (try clear hi); obtain ⟨hcz77_0, hcz77_1, hcz77_2, hcz77_3, hfz77_0, hfz77_1, hfz77_2, hfz77_3⟩ := c4_ BK106) | ((with_reducible refine gate_callee (f := 36) rfl ?_); refine gl_ (some 13) Tryz.func36 #[.agg #[.bool a0_0, .int .u64 a0_1, .int .u64 a0_2, .int .i64 a0_3]] ?_; (with_reducible refine (prefix_Right.calls a0_0 a0_1 a0_2 a0_3 false _ A3.out).mono ?_); rintro e w78 ⟨rfl, hb⟩; refine ⟨_, rfl, ?_⟩; replace BK106 := bb_ BK106 hb; replace BK107 := bb_ BK107 hb; replace BK108 := bb_ BK108 hb; replace HB := bs_ HB hb; (try clear hb); (try clear hb2); (try clear hk); (try clear hi); have hnb79 := NB107_108.out; have hnc79 := NB108_107.out; obtain ⟨hcz80_0, hcz80_1, hcz80_2, hcz80_3, hfz80_0, hfz80_1, hfz80_2, hfz80_3⟩ := c4_ BK107; obtain ⟨hcz81_0, hcz81_1, hcz81_2, hcz81_3, hfz81_0, hfz81_1, hfz81_2, hfz81_3⟩ := c4_ BK108))
  refine bodyPost_ret (results_list (rs := [.cell 2 38, .cell 3 38, .tmp 4]) rfl (by simp) (.cell gb107 38 #[.bool false, .int .u64 0, .int .u64 0, .int .i64 0] (0, 0) _ rfl (by refine pw_ ?_; refine blk_far ?_ NB107_108.out _; refine pw_ ?_; refine blk_far ?_ NB107_108.out _; refine pw_ ?_; refine blk_far ?_ NB107_108.out _; refine pw_ ?_; refine blk_far ?_ NB107_108.out _; refine pw_ ?_; refine blk_put (cs := #[.bool false, .int .u64 0, .int .u64 0, .int .i64 0]) ?_ 3 _ rfl; refine pw_ ?_; refine blk_put (cs := #[.bool false, .int .u64 0, .int .u64 0, .int .i64 0]) ?_ 2 _ rfl; refine pw_ ?_; refine blk_put (cs := #[.bool false, .int .u64 0, .int .u64 0, .int .i64 0]) ?_ 1 _ rfl; refine pw_ ?_; refine blk_put (cs := #[.bool false, .int .u64 0, .int .u64 0, .int .i64 0]) ?_ 0 _ rfl; refine pw_ ?_; exact BK107.out) Tryz.underlying38 rfl (by kernel_rfl) (.cell gb108 38 #[.bool false, .int .u64 0, .int .u64 0, .int .i64 0] (0, 0) _ rfl (by refine pw_ ?_; refine blk_put (cs := #[.bool false, .int .u64 0, .int .u64 0, .int .i64 0]) ?_ 3 _ rfl; refine pw_ ?_; refine blk_put (cs := #[.bool false, .int .u64 0, .int .u64 0, .int .i64 0]) ?_ 2 _ rfl; refine pw_ ?_; refine blk_put (cs := #[.bool false, .int .u64 0, .int .u64 0, .int .i64 0]) ?_ 1 _ rfl; refine pw_ ?_; refine blk_put (cs := #[.bool false, .int .u64 0, .int .u64 0, .int .i64 0]) ?_ 0 _ rfl; refine pw_ ?_; refine blk_far ?_ NB108_107.out _; refine pw_ ?_; refine blk_far ?_ NB108_107.out _; refine pw_ ?_; refine blk_far ?_ NB108_107.out _; refine pw_ ?_; refine blk_far ?_ NB108_107.out _; refine pw_ ?_; exact BK108.out) Tryz.underlying38 rfl (by kernel_rfl) (.tmp .nil)))) rfl ?_
  exact ⟨by first | rfl | (simp [errW_none, errW_some] <;> rfl) | (simp [*, errW_none, errW_some] <;> rfl), pb_ HB⟩

end Go.Proofs.YtgdgklibilddgaaGreatDoor.PPt

namespace Go.Proofs.YtgdgklibilddgaaGreatDoor.PPt
open Go.RowKit Go.Proofs.YtgdgklibilddgaaGreatDoorW.PrintWords Go.Proofs.YtgdgklibilddgaaGreatDoorW.PrintLast Go.Proofs.YtgdgklibilddgaaGreatDoorW.PrintMore
attribute [local go_sem] max2_int min2_int max_two min_two max_three min_three max_four min_four   -- for this text's walks alone

def platbooklaw03_awake.f  : Option (Bool) := (prefix_Parse.f (⟨#[49, 48, 46, 48, 46, 48, 46, 48, 47, 56]⟩ : ByteArray)).bind fun bt119 => ((prefix_Halves.f bt119.1 bt119.2.1 bt119.2.2.1 bt119.2.2.2.1).bind fun bt125 => ((prefix_Parse.f (⟨#[49, 48, 46, 48, 46, 48, 46, 49, 47, 56]⟩ : ByteArray)).bind fun bt136 => (if bt119.2.2.2.2 = 0 then (if bt125.2.2.2.2.2.2.2.2 = 0 then ((prefix_Print.f bt125.1 bt125.2.1 bt125.2.2.1 bt125.2.2.2.1).bind fun t142 => (if t142.toList = ([49, 48, 46, 48, 46, 48, 46, 48, 47, 57] : List UInt8) then ((prefix_Print.f bt125.2.2.2.2.1 bt125.2.2.2.2.2.1 bt125.2.2.2.2.2.2.1 bt125.2.2.2.2.2.2.2.1).bind fun t143 => (if t143.toList = ([49, 48, 46, 49, 50, 56, 46, 48, 46, 48, 47, 57] : List UInt8) then (some (bt136.2.2.2.2 == 4)) else (some false))) else (some false))) else (some false)) else (some false))))
set_option maxHeartbeats 8000000 in
set_option maxRecDepth 100000 in
theorem platbooklaw03_awake.calls  (r : Bool) (w : World) (hG : Glob w) (hrt : r = true) (h : platbooklaw03_awake.f  = some r) :
  Calls Tryz.prog 24 #[] w fun e w' => e = .returned (.bool r) ∧ Below w.heap.size w w' := by
 have hu38 := Tryz.underlying38
 have HGLB := Aside0.mk hG
 clear hG
 have HRT := Aside0.mk hrt
 clear hrt
 have HB := Aside0.mk (Below.refl w.heap.size w)
 have H : ((prefix_Parse.f (⟨#[49, 48, 46, 48, 46, 48, 46, 48, 47, 56]⟩ : ByteArray)).bind fun bt119 => ((prefix_Halves.f bt119.1 bt119.2.1 bt119.2.2.1 bt119.2.2.2.1).bind fun bt125 => ((prefix_Parse.f (⟨#[49, 48, 46, 48, 46, 48, 46, 49, 47, 56]⟩ : ByteArray)).bind fun bt136 => (if bt119.2.2.2.2 = 0 then (if bt125.2.2.2.2.2.2.2.2 = 0 then ((prefix_Print.f bt125.1 bt125.2.1 bt125.2.2.1 bt125.2.2.2.1).bind fun t142 => (if t142.toList = ([49, 48, 46, 48, 46, 48, 46, 48, 47, 57] : List UInt8) then ((prefix_Print.f bt125.2.2.2.2.1 bt125.2.2.2.2.2.1 bt125.2.2.2.2.2.2.1 bt125.2.2.2.2.2.2.2.1).bind fun t143 => (if t143.toList = ([49, 48, 46, 49, 50, 56, 46, 48, 46, 48, 47, 57] : List UInt8) then (some (bt136.2.2.2.2 == 4)) else (some false))) else (some false))) else (some false)) else (some false))))) = some r := h
 clear h
 replace H := Option.bind_eq_some_iff.mp H
 obtain ⟨⟨t119, t120, t121, t122, t123⟩, A10, H⟩ := H
 replace H : ((prefix_Halves.f t119 t120 t121 t122).bind fun bt125 => ((prefix_Parse.f (⟨#[49, 48, 46, 48, 46, 48, 46, 49, 47, 56]⟩ : ByteArray)).bind fun bt136 => (if t123 = 0 then (if bt125.2.2.2.2.2.2.2.2 = 0 then ((prefix_Print.f bt125.1 bt125.2.1 bt125.2.2.1 bt125.2.2.2.1).bind fun t142 => (if t142.toList = ([49, 48, 46, 48, 46, 48, 46, 48, 47, 57] : List UInt8) then ((prefix_Print.f bt125.2.2.2.2.1 bt125.2.2.2.2.2.1 bt125.2.2.2.2.2.2.1 bt125.2.2.2.2.2.2.2.1).bind fun t143 => (if t143.toList = ([49, 48, 46, 49, 50, 56, 46, 48, 46, 48, 47, 57] : List UInt8) then (some (bt136.2.2.2.2 == 4)) else (some false))) else (some false))) else (some false)) else (some false)))) = some r := H
 have A1 := Aside0.mk A10
 clear A10
 replace H := Option.bind_eq_some_iff.mp H
 obtain ⟨⟨t125, t126, t127, t128, t129, t130, t131, t132, t133⟩, A20, H⟩ := H
 replace H : ((prefix_Parse.f (⟨#[49, 48, 46, 48, 46, 48, 46, 49, 47, 56]⟩ : ByteArray)).bind fun bt136 => (if t123 = 0 then (if t133 = 0 then ((prefix_Print.f t125 t126 t127 t128).bind fun t142 => (if t142.toList = ([49, 48, 46, 48, 46, 48, 46, 48, 47, 57] : List UInt8) then ((prefix_Print.f t129 t130 t131 t132).bind fun t143 => (if t143.toList = ([49, 48, 46, 49, 50, 56, 46, 48, 46, 48, 47, 57] : List UInt8) then (some (bt136.2.2.2.2 == 4)) else (some false))) else (some false))) else (some false)) else (some false))) = some r := H
 have A2 := Aside0.mk A20
 clear A20
 replace H := Option.bind_eq_some_iff.mp H
 obtain ⟨⟨t136, t137, t138, t139, t140⟩, A30, H⟩ := H
 replace H : (if t123 = 0 then (if t133 = 0 then ((prefix_Print.f t125 t126 t127 t128).bind fun t142 => (if t142.toList = ([49, 48, 46, 48, 46, 48, 46, 48, 47, 57] : List UInt8) then ((prefix_Print.f t129 t130 t131 t132).bind fun t143 => (if t143.toList = ([49, 48, 46, 49, 50, 56, 46, 48, 46, 48, 47, 57] : List UInt8) then (some (t140 == 4)) else (some false))) else (some false))) else (some false)) else (some false)) = some r := H
 have A3 := Aside0.mk A30
 clear A30
 by_cases c4 : t123 = 0
 ·
  rw [if_pos c4] at H
  have c4b0 : (t123 == 0) = true := beq_iff_eq.mpr c4
  have c4b1 : (t123 != 0) = false := bne_eq_false_iff_eq.mpr c4
  clear c4
  by_cases c5 : t133 = 0
  ·
   rw [if_pos c5] at H
   have c5b0 : (t133 == 0) = true := beq_iff_eq.mpr c5
   have c5b1 : (t133 != 0) = false := bne_eq_false_iff_eq.mpr c5
   clear c5
   replace H := Option.bind_eq_some_iff.mp H
   obtain ⟨t142, A60, H⟩ := H
   replace H : (if t142.toList = ([49, 48, 46, 48, 46, 48, 46, 48, 47, 57] : List UInt8) then ((prefix_Print.f t129 t130 t131 t132).bind fun t143 => (if t143.toList = ([49, 48, 46, 49, 50, 56, 46, 48, 46, 48, 47, 57] : List UInt8) then (some (t140 == 4)) else (some false))) else (some false)) = some r := H
   have A6 := Aside0.mk A60
   clear A60
   by_cases c7 : t142.toList = ([49, 48, 46, 48, 46, 48, 46, 48, 47, 57] : List UInt8)
   ·
    rw [if_pos c7] at H
    have c7b0 : (t142.toList == ([49, 48, 46, 48, 46, 48, 46, 48, 47, 57] : List UInt8)) = true := beq_iff_eq.mpr c7
    have c7b1 : (t142.toList != ([49, 48, 46, 48, 46, 48, 46, 48, 47, 57] : List UInt8)) = false := bne_eq_false_iff_eq.mpr c7
    clear c7
    replace H := Option.bind_eq_some_iff.mp H
    obtain ⟨t143, A80, H⟩ := H
    replace H : (if t143.toList = ([49, 48, 46, 49, 50, 56, 46, 48, 46, 48, 47, 57] : List UInt8) then (some (t140 == 4)) else (some false)) = some r := H
    have A8 := Aside0.mk A80
    clear A80
    by_cases c9 : t143.toList = ([49, 48, 46, 49, 50, 56, 46, 48, 46, 48, 47, 57] : List UInt8)
    ·
     rw [if_pos c9] at H
     have c9b0 : (t143.toList == ([49, 48, 46, 49, 50, 56, 46, 48, 46, 48, 47, 57] : List UInt8)) = true := beq_iff_eq.mpr c9
     have c9b1 : (t143.toList != ([49, 48, 46, 49, 50, 56, 46, 48, 46, 48, 47, 57] : List UInt8)) = false := bne_eq_false_iff_eq.mpr c9
     clear c9
     obtain rfl := Option.some.inj H
     go_enter Tryz.func24, Tryz.ntmps24
     go_wp2_with (first | ((with_reducible refine gate_callee (f := 25) rfl ?_); refine gl_ (some 9) Tryz.func25 #[.string (⟨#[49, 48, 46, 48, 46, 48, 46, 48, 47, 56]⟩ : ByteArray)] ?_; (with_reducible refine (prefix_Parse.calls (⟨#[49, 48, 46, 48, 46, 48, 46, 48, 47, 56]⟩ : ByteArray) t119 t120 t121 t122 t123 _ ?side1 A1.out).mono ?_); (case side1 => exact glob_keep HGLB.out (pb_ HB)); rintro e w10 ⟨rfl, hb⟩; refine ⟨_, rfl, ?_⟩; replace HB := bs_ HB hb; (try clear hb); (try clear hb2); (try clear hk); (try clear hi)) | ((with_reducible refine gate_dst (N := 1) rfl ?_); refine bx_ 1 #[.bool false, .int .u64 0, .int .u64 0, .int .i64 0] 38 ?_; intro gb124 hg w11 hbox hb; have BK124 := Aside0.mk (hbox); have GW124 := gw_ HB hg; have GE124 := gw_ HB hg; replace HB := bs_ HB hb; clear hb hbox hg; obtain ⟨hcz12_0, hcz12_1, hcz12_2, hcz12_3, hfz12_0, hfz12_1, hfz12_2, hfz12_3⟩ := c4_ BK124) | ((with_reducible refine gate_callee (f := 33) rfl ?_); refine gl_ (some 14) Tryz.func33 #[.agg #[.bool t119, .int .u64 t120, .int .u64 t121, .int .i64 t122]] ?_; (with_reducible refine (prefix_Halves.calls t119 t120 t121 t122 t125 t126 t127 t128 t129 t130 t131 t132 t133 _ A2.out).mono ?_); rintro e w13 ⟨rfl, hb⟩; refine ⟨_, rfl, ?_⟩; replace BK124 := Aside0.mk (blk_below (g := gb124) (o := .cells #[.bool t119, .int .u64 t120, .int .u64 t121, .int .i64 t122] 38 (0, 0)) (by refine pw_ ?_; refine blk_put (cs := #[.bool t119, .int .u64 t120, .int .u64 t121, .int .i64 0]) ?_ 3 _ rfl; refine pw_ ?_; refine blk_put (cs := #[.bool t119, .int .u64 t120, .int .u64 0, .int .i64 0]) ?_ 2 _ rfl; refine pw_ ?_; refine blk_put (cs := #[.bool t119, .int .u64 0, .int .u64 0, .int .i64 0]) ?_ 1 _ rfl; refine pw_ ?_; refine blk_put (cs := #[.bool false, .int .u64 0, .int .u64 0, .int .i64 0]) ?_ 0 _ rfl; refine pw_ ?_; exact BK124.out) hb); replace HB := bs_ HB hb; (try clear hb); (try clear hb2); (try clear hk); (try clear hi)) | ((with_reducible refine gate_dst (N := 3) rfl ?_); refine bx_ 3 #[.bool false, .int .u64 0, .int .u64 0, .int .i64 0] 38 ?_; intro gb134 hg w14 hbox hb; have BK134 := Aside0.mk (hbox); have GW134 := gw_ HB hg; have GE134 := gw_ HB hg; have NB124_134 := nl_ BK124 hg; have NB134_124 := ng_ BK124 hg; replace BK124 := bb_ BK124 hb; replace HB := bs_ HB hb; clear hb hbox hg) | ((with_reducible refine gate_dst (N := 4) rfl ?_); refine bx_ 4 #[.bool false, .int .u64 0, .int .u64 0, .int .i64 0] 38 ?_; intro gb135 hg w15 hbox hb; have BK135 := Aside0.mk (hbox); have GW135 := gw_ HB hg; have GE135 := gw_ HB hg; have NB124_135 := nl_ BK124 hg; have NB135_124 := ng_ BK124 hg; have NB134_135 := nl_ BK134 hg; have NB135_134 := ng_ BK134 hg; replace BK124 := bb_ BK124 hb; replace BK134 := bb_ BK134 hb; replace HB := bs_ HB hb; clear hb hbox hg; have hnb16 := NB134_124.out; have hnc16 := NB124_134.out; have hnb17 := NB134_135.out; have hnc17 := NB135_134.out; obtain ⟨hcz18_0, hcz18_1, hcz18_2, hcz18_3, hfz18_0, hfz18_1, hfz18_2, hfz18_3⟩ := c4_ BK134; have hnb19 := NB135_124.out; have hnc19 := NB124_135.out; obtain ⟨hcz20_0, hcz20_1, hcz20_2, hcz20_3, hfz20_0, hfz20_1, hfz20_2, hfz20_3⟩ := c4_ BK135) | ((with_reducible refine gate_callee (f := 25) rfl ?_); refine gl_ (some 19) Tryz.func25 #[.string (⟨#[49, 48, 46, 48, 46, 48, 46, 49, 47, 56]⟩ : ByteArray)] ?_; (with_reducible refine (prefix_Parse.calls (⟨#[49, 48, 46, 48, 46, 48, 46, 49, 47, 56]⟩ : ByteArray) t136 t137 t138 t139 t140 _ ?side1 A3.out).mono ?_); (case side1 => exact glob_keep HGLB.out (pb_ HB)); rintro e w21 ⟨rfl, hb⟩; refine ⟨_, rfl, ?_⟩; replace BK124 := Aside0.mk (blk_below (g := gb124) (o := .cells #[.bool t119, .int .u64 t120, .int .u64 t121, .int .i64 t122] 38 (0, 0)) (by refine pw_ ?_; refine blk_far ?_ NB124_135.out _; refine pw_ ?_; refine blk_far ?_ NB124_135.out _; refine pw_ ?_; refine blk_far ?_ NB124_135.out _; refine pw_ ?_; refine blk_far ?_ NB124_135.out _; refine pw_ ?_; refine blk_far ?_ NB124_134.out _; refine pw_ ?_; refine blk_far ?_ NB124_134.out _; refine pw_ ?_; refine blk_far ?_ NB124_134.out _; refine pw_ ?_; refine blk_far ?_ NB124_134.out _; refine pw_ ?_; exact BK124.out) hb); replace BK134 := Aside0.mk (blk_below (g := gb134) (o := .cells #[.bool t125, .int .u64 t126, .int .u64 t127, .int .i64 t128] 38 (0, 0)) (by refine pw_ ?_; refine blk_far ?_ NB134_135.out _; refine pw_ ?_; refine blk_far ?_ NB134_135.out _; refine pw_ ?_; refine blk_far ?_ NB134_135.out _; refine pw_ ?_; refine blk_far ?_ NB134_135.out _; refine pw_ ?_; refine blk_put (cs := #[.bool t125, .int .u64 t126, .int .u64 t127, .int .i64 0]) ?_ 3 _ rfl; refine pw_ ?_; refine blk_put (cs := #[.bool t125, .int .u64 t126, .int .u64 0, .int .i64 0]) ?_ 2 _ rfl; refine pw_ ?_; refine blk_put (cs := #[.bool t125, .int .u64 0, .int .u64 0, .int .i64 0]) ?_ 1 _ rfl; refine pw_ ?_; refine blk_put (cs := #[.bool false, .int .u64 0, .int .u64 0, .int .i64 0]) ?_ 0 _ rfl; refine pw_ ?_; exact BK134.out) hb); replace BK135 := Aside0.mk (blk_below (g := gb135) (o := .cells #[.bool t129, .int .u64 t130, .int .u64 t131, .int .i64 t132] 38 (0, 0)) (by refine pw_ ?_; refine blk_put (cs := #[.bool t129, .int .u64 t130, .int .u64 t131, .int .i64 0]) ?_ 3 _ rfl; refine pw_ ?_; refine blk_put (cs := #[.bool t129, .int .u64 t130, .int .u64 0, .int .i64 0]) ?_ 2 _ rfl; refine pw_ ?_; refine blk_put (cs := #[.bool t129, .int .u64 0, .int .u64 0, .int .i64 0]) ?_ 1 _ rfl; refine pw_ ?_; refine blk_put (cs := #[.bool false, .int .u64 0, .int .u64 0, .int .i64 0]) ?_ 0 _ rfl; refine pw_ ?_; refine blk_far ?_ NB135_134.out _; refine pw_ ?_; refine blk_far ?_ NB135_134.out _; refine pw_ ?_; refine blk_far ?_ NB135_134.out _; refine pw_ ?_; refine blk_far ?_ NB135_134.out _; refine pw_ ?_; exact BK135.out) hb); replace HB := bs_ HB hb; (try clear hb); (try clear hb2); (try clear hk); (try clear hi)) | ((with_reducible refine gate_dst (N := 6) rfl ?_); refine bx_ 6 #[.bool false, .int .u64 0, .int .u64 0, .int .i64 0] 38 ?_; intro gb141 hg w22 hbox hb; have BK141 := Aside0.mk (hbox); have GW141 := gw_ HB hg; have GE141 := gw_ HB hg; have NB124_141 := nl_ BK124 hg; have NB141_124 := ng_ BK124 hg; have NB134_141 := nl_ BK134 hg; have NB141_134 := ng_ BK134 hg; have NB135_141 := nl_ BK135 hg; have NB141_135 := ng_ BK135 hg; replace BK124 := bb_ BK124 hb; replace BK134 := bb_ BK134 hb; replace BK135 := bb_ BK135 hb; replace HB := bs_ HB hb; clear hb hbox hg; have hnb23 := NB141_124.out; have hnc23 := NB124_141.out; have hnb24 := NB141_134.out; have hnc24 := NB134_141.out; have hnb25 := NB141_135.out; have hnc25 := NB135_141.out; obtain ⟨hcz26_0, hcz26_1, hcz26_2, hcz26_3, hfz26_0, hfz26_1, hfz26_2, hfz26_3⟩ := c4_ BK141; obtain ⟨hcz27_0, hcz27_1, hcz27_2, hcz27_3, hfz27_0, hfz27_1, hfz27_2, hfz27_3⟩ := c4_ BK134) | (go_at_call 27; (with_reducible refine (prefix_Print.calls t125 t126 t127 t128 t142 _ ?side1 A6.out).mono ?_); (case side1 => exact glob_keep HGLB.out (pb_ HB)); rintro e w28 ⟨rfl, hb⟩; replace BK124 := Aside0.mk (blk_below (g := gb124) (o := .cells #[.bool t119, .int .u64 t120, .int .u64 t121, .int .i64 t122] 38 (0, 0)) (by refine pw_ ?_; refine blk_far ?_ NB124_141.out _; refine pw_ ?_; refine blk_far ?_ NB124_141.out _; refine pw_ ?_; refine blk_far ?_ NB124_141.out _; refine pw_ ?_; refine blk_far ?_ NB124_141.out _; refine pw_ ?_; exact BK124.out) hb); replace BK134 := Aside0.mk (blk_below (g := gb134) (o := .cells #[.bool t125, .int .u64 t126, .int .u64 t127, .int .i64 t128] 38 (0, 0)) (by refine pw_ ?_; refine blk_far ?_ NB134_141.out _; refine pw_ ?_; refine blk_far ?_ NB134_141.out _; refine pw_ ?_; refine blk_far ?_ NB134_141.out _; refine pw_ ?_; refine blk_far ?_ NB134_141.out _; refine pw_ ?_; exact BK134.out) hb); replace BK135 := Aside0.mk (blk_below (g := gb135) (o := .cells #[.bool t129, .int .u64 t130, .int .u64 t131, .int .i64 t132] 38 (0, 0)) (by refine pw_ ?_; refine blk_far ?_ NB135_141.out _; refine pw_ ?_; refine blk_far ?_ NB135_141.out _; refine pw_ ?_; refine blk_far ?_ NB135_141.out _; refine pw_ ?_; refine blk_far ?_ NB135_141.out _; refine pw_ ?_; exact BK135.out) hb); replace BK141 := Aside0.mk (blk_below (g := gb141) (o := .cells #[.bool t136, .int .u64 t137, .int .u64 t138, .int .i64 t139] 38 (0, 0)) (by refine pw_ ?_; refine blk_put (cs := #[.bool t136, .int .u64 t137, .int .u64 t138, .int .i64 0]) ?_ 3 _ rfl; refine pw_ ?_; refine blk_put (cs := #[.bool t136, .int .u64 t137, .int .u64 0, .int .i64 0]) ?_ 2 _ rfl; refine pw_ ?_; refine blk_put (cs := #[.bool t136, .int .u64 0, .int .u64 0, .int .i64 0]) ?_ 1 _ rfl; refine pw_ ?_; refine blk_put (cs := #[.bool false, .int .u64 0, .int .u64 0, .int .i64 0]) ?_ 0 _ rfl; refine pw_ ?_; exact BK141.out) hb); replace HB := bs_ HB hb; (try clear hb); (try clear hb2); (try clear hk); (try clear hi); obtain ⟨hcz29_0, hcz29_1, hcz29_2, hcz29_3, hfz29_0, hfz29_1, hfz29_2, hfz29_3⟩ := c4_ BK135) | (go_at_call 27; (with_reducible refine (prefix_Print.calls t129 t130 t131 t132 t143 _ ?side1 A8.out).mono ?_); (case side1 => exact glob_keep HGLB.out (pb_ HB)); rintro e w30 ⟨rfl, hb⟩; replace BK124 := bb_ BK124 hb; replace BK134 := bb_ BK134 hb; replace BK135 := bb_ BK135 hb; replace BK141 := bb_ BK141 hb; replace HB := bs_ HB hb; (try clear hb); (try clear hb2); (try clear hk); (try clear hi)))
     go_ret
     exact ⟨by first | rfl | (simp [errW_none, errW_some] <;> rfl) | (simp [*, errW_none, errW_some] <;> rfl), pb_ HB⟩
    ·
     rw [if_neg c9] at H
     have c9b0 : (t143.toList == ([49, 48, 46, 49, 50, 56, 46, 48, 46, 48, 47, 57] : List UInt8)) = false := beq_eq_false_iff_ne.mpr c9
     have c9b1 : (t143.toList != ([49, 48, 46, 49, 50, 56, 46, 48, 46, 48, 47, 57] : List UInt8)) = true := bne_iff_ne.mpr c9
     obtain rfl := Option.some.inj H
     exact absurd HRT.out (by decide)
   ·
    rw [if_neg c7] at H
    have c7b0 : (t142.toList == ([49, 48, 46, 48, 46, 48, 46, 48, 47, 57] : List UInt8)) = false := beq_eq_false_iff_ne.mpr c7
    have c7b1 : (t142.toList != ([49, 48, 46, 48, 46, 48, 46, 48, 47, 57] : List UInt8)) = true := bne_iff_ne.mpr c7
    obtain rfl := Option.some.inj H
    exact absurd HRT.out (by decide)
  ·
   rw [if_neg c5] at H
   have c5b0 : (t133 == 0) = false := beq_eq_false_iff_ne.mpr c5
   have c5b1 : (t133 != 0) = true := bne_iff_ne.mpr c5
   obtain rfl := Option.some.inj H
   exact absurd HRT.out (by decide)
 ·
  rw [if_neg c4] at H
  have c4b0 : (t123 == 0) = false := beq_eq_false_iff_ne.mpr c4
  have c4b1 : (t123 != 0) = true := bne_iff_ne.mpr c4
  obtain rfl := Option.some.inj H
  exact absurd HRT.out (by decide)

mutual
def platbookref01_Bits.l0 : Nat → List Int → Int → Int → Int → Option (List Int)
 | 0, _, _, _, _ => none
 | k + 1, x3, x4, x5, x6 => if x6 < 64 then (if x3.length < 17592186044416 then (platbookref01_Bits.l0 k (x3 ++ [wrap64 (Int.tmod x4 2)]) (IntKind.u64.wrap (Int.tdiv x4 2)) x5 (wrap64 (x6 + 1))) else (none)) else (platbookref01_Bits.l1 k x3 x5 0)
def platbookref01_Bits.l1 : Nat → List Int → Int → Int → Option (List Int)
 | 0, _, _, _ => none
 | k + 1, x3, x5, x7 => if x7 < 64 then (if x3.length < 17592186044416 then (platbookref01_Bits.l1 k (x3 ++ [wrap64 (Int.tmod x5 2)]) (IntKind.u64.wrap (Int.tdiv x5 2)) (wrap64 (x7 + 1))) else (none)) else (some x3)
end
def platbookref01_Bits.f (k : Nat) (a0_0 : Int) (a0_1 : Int) : Option (List Int) := platbookref01_Bits.l0 k (([] : List Int)) a0_1 a0_0 0
set_option maxHeartbeats 8000000 in
set_option maxRecDepth 100000 in
theorem platbookref01_Bits.calls (k : Nat) (a0_0 : Int) (a0_1 : Int) (r : List Int) (w : World) (h : platbookref01_Bits.f k a0_0 a0_1 = some r) :
  Calls Tryz.prog 92 #[.agg #[.int .u64 a0_0, .int .u64 a0_1]] w fun e w' => ∃ v0_ : Value, e = .returned (v0_) ∧ Kd.R (Kd.int .i64) 3 w' w.heap.size (fun _ => True) v0_ r ∧ Below w.heap.size w w' := by
 have hu24 := Tryz.underlying24
 have HB := Aside0.mk (Below.refl w.heap.size w)
 have H : (platbookref01_Bits.l0 k (([] : List Int)) a0_1 a0_0 0) = some r := h
 clear h
 obtain ⟨y145, hy145⟩ : ∃ y_ : List Int, y_ = (([] : List Int)) := ⟨_, rfl⟩
 replace H : (platbookref01_Bits.l0 k y145 a0_1 a0_0 0) = some r := by first | (rw [hy145]; with_reducible exact H) | (have H2_ := (Option.bind_some _ _).symm.trans H; rw [hy145]; with_reducible exact H2_) | (have H2_ := (Option.bind_some _ _).symm.trans H; with_reducible exact H2_) | with_reducible exact H | (rw [hy145]; exact H) | exact H
 have Ny145 := Aside0.mk hy145
 clear hy145
 have H' := Aside0.mk H
 clear H
 go_enter Tryz.func92, Tryz.ntmps92
 go_wp2_with (first | ((with_reducible refine gate_dst (N := 1) rfl ?_); refine bx_ 1 #[.int .u64 a0_0, .int .u64 a0_1] 24 ?_; intro gb144 hg w2 hbox hb; have BK144 := Aside0.mk (hbox); have GW144 := gw_ HB hg; have GE144 := gw_ HB hg; replace HB := bs_ HB hb; clear hb hbox hg) | ((with_reducible refine gate_dst (N := 8) rfl ?_); refine Kd.R_lit (Kd.int .i64) _ 3 ?hg (N := 8) ?hd (xs := ([] : List Int)) (inner := []) (ok := fun _ => True) (okp := fun _ => True) ?hr ?hp (fun _ hk => hk) trivial (Below.refl _ _) (Nat.le_refl _) (by simp) ?_; (case hd => rfl); (case hg => rfl); (case hr => first | (go_simp; done) | (go_simp; rfl)); (case hp => exact (Reps.none _ _)); intro v146 w3 ho4 hb hg_ hnew_; clear hg_ hnew_; (first | rw [← Ny145.out] at ho4 | (simp only [Int.reduceToNat] at ho4; rw [← Ny145.out] at ho4)); have HO147 := Aside0.mk (Kd.R_lower ho4 (below_size (pb_ HB))); replace BK144 := bb_ BK144 hb; replace HB := bs_ HB hb; clear hb ho4; obtain ⟨hcz5_0, hcz5_1, hfz5_0, hfz5_1⟩ := c2_ BK144))
 go_loopg [3, 4, 6] k (fun kq v3 v4 v6 w' => ∃ (x3_1 : List Int) (x4_1 : Int) (x6_1 : Int), v4 = .int .u64 x4_1 ∧ v6 = .int .i64 x6_1 ∧ Aside0 (platbookref01_Bits.l0 kq x3_1 x4_1 a0_0 x6_1 = some r) ∧ Aside0 (kq ≤ k) ∧ Aside0 (Kd.R (Kd.int .i64) 3 w' w.heap.size (fun _ => True) v3 x3_1) ∧ Aside0 (w'.heap[gb144]? = some (.cells #[.int .u64 a0_0, .int .u64 a0_1] 24 (0, 0))) ∧ Aside0 (Below w.heap.size w w'))
 case atStart => exact ⟨(y145), (a0_1), (0), (by first | rfl | (simp; done) | (simp [*]; done)), (by first | rfl | (simp; done) | (simp [*]; done)), H', ⟨Nat.le_refl _⟩, ⟨by (with_reducible repeat (first | apply Kd.R_alloc | apply Kd.R_drewN | apply Kd.R_drew)); exact HO147.out⟩, ⟨by refine pw_ ?_; exact BK144.out⟩, ⟨pb_ HB⟩⟩
 case round =>
  clear H'
  try clear p2
  try clear hcz5_0
  try clear hcz5_1
  try clear hfz5_0
  try clear hfz5_1
  obtain ⟨x3_1, x4_1, x6_1, rfl, rfl, HA, HK1, HO_3, BK144, HB⟩ := hrel
  cases gk with
  | zero => exact absurd HA.out (by simp [platbookref01_Bits.l0])
  | succ k1 =>
   have H := HA.out
   clear HA
   simp only [platbookref01_Bits.l0] at H
   by_cases c6 : x6_1 < 64
   ·
    rw [if_pos c6] at H
    have c6b0 : decide (x6_1 < 64) = true := decide_eq_true c6
    clear c6
    by_cases c7 : x3_1.length < 17592186044416
    ·
     rw [if_pos c7] at H
     have LMc7 := Aside0.mk c7
     clear c7
     obtain ⟨y148, hy148⟩ : ∃ y_ : List Int, y_ = (x3_1 ++ [wrap64 (Int.tmod x4_1 2)]) := ⟨_, rfl⟩
     replace H : (platbookref01_Bits.l0 k1 y148 (IntKind.u64.wrap (Int.tdiv x4_1 2)) a0_0 (wrap64 (x6_1 + 1))) = some r := by first | (rw [hy148]; with_reducible exact H) | (have H2_ := (Option.bind_some _ _).symm.trans H; rw [hy148]; with_reducible exact H2_) | (have H2_ := (Option.bind_some _ _).symm.trans H; with_reducible exact H2_) | with_reducible exact H | (rw [hy148]; exact H) | exact H
     have Ny148 := Aside0.mk hy148
     clear hy148
     have H' := Aside0.mk H
     clear H
     go_wp2_with (first | ((with_reducible refine gate_builtin (b := .append) (xs := #[.tmp 17, .tmp 21]) rfl ?_); at_builtin; refine Kd.R_append (Kd.int .i64) (w0 := w) w.heap.size rfl (.tmp 17) (.tmp 21) 91 3 (.int .i64 0) 8 rfl Tryz.underlying91 info3 rfl (by decide) (by omega) u3 x3_1 (wrap64 (Int.tmod x4_1 2)) [.int .i64 (wrap64 (Int.tmod x4_1 2))] (fun _ => True) (fun _ => False) rfl rfl ?aP (fun _ hk => hk.elim) ?aF ?aO ?aB ?aS ?aL ?_; (case aP => exact rfl); (case aB => exact (pb_ HB)); (case aF => exact (fun _ _ => trivial)); (case aO => exact (by (with_reducible repeat (first | apply Kd.R_alloc | apply Kd.R_drewN | apply Kd.R_drew)); exact HO_3.out)); (case aS => exact (below_size (pb_ HB))); (case aL => have := LMc7.out; omega); intro v149 w8 ho hb hg hat; rw [← Ny148.out] at ho; have HO150 := Aside0.mk (ho); replace BK144 := Aside0.mk (blk_grown (g := gb144) (o := .cells #[.int .u64 a0_0, .int .u64 a0_1] 24 (0, 0)) (pk_ BK144) hg (Kd.R_ne HO_3.out BK144.out (by decide))); replace HB := Aside0.mk (hb); clear HO_3; clear ho hb hg hat))
     go_roundg k1
     case measure => have := HK1.out; omega
     case rel => exact ⟨(y148), (IntKind.u64.wrap (Int.tdiv x4_1 2)), (wrap64 (x6_1 + 1)), (by first | rfl | (simp; done) | (simp [*]; done)), (by first | rfl | (simp; done) | (simp [*]; done)), H', ⟨by have := HK1.out; omega⟩, ⟨by (with_reducible repeat (first | apply Kd.R_alloc | apply Kd.R_drewN | apply Kd.R_drew)); exact HO150.out⟩, ⟨by refine pw_ ?_; exact BK144.out⟩, ⟨pb_ HB⟩⟩
    ·
     rw [if_neg c7] at H
     exact absurd H (by simp)
   ·
    rw [if_neg c6] at H
    have c6b0 : decide (x6_1 < 64) = false := decide_eq_false c6
    clear c6
    have H' := Aside0.mk H
    clear H
    go_wp2
    go_loopg [3, 5, 7] k1 (fun kq v3 v5 v7 w' => ∃ (x3_2 : List Int) (x5_2 : Int) (x7_2 : Int), v5 = .int .u64 x5_2 ∧ v7 = .int .i64 x7_2 ∧ Aside0 (platbookref01_Bits.l1 kq x3_2 x5_2 x7_2 = some r) ∧ Aside0 (kq ≤ k1) ∧ Aside0 (Kd.R (Kd.int .i64) 3 w' w.heap.size (fun _ => True) v3 x3_2) ∧ Aside0 (w'.heap[gb144]? = some (.cells #[.int .u64 a0_0, .int .u64 a0_1] 24 (0, 0))) ∧ Aside0 (Below w.heap.size w w'))
    case atStart => exact ⟨(x3_1), (a0_0), (0), (by first | rfl | (simp; done) | (simp [*]; done)), (by first | rfl | (simp; done) | (simp [*]; done)), H', ⟨Nat.le_refl _⟩, ⟨by (with_reducible repeat (first | apply Kd.R_alloc | apply Kd.R_drewN | apply Kd.R_drew)); exact HO_3.out⟩, ⟨by refine pw_ ?_; exact BK144.out⟩, ⟨pb_ HB⟩⟩
    case round =>
     clear H'
     try clear p2
     try clear c6
     try clear c6b0
     try clear p6
     try clear c7
     try clear hcz5_0
     try clear hcz5_1
     try clear hfz5_0
     try clear hfz5_1
     try clear p2
     obtain ⟨x3_2, x5_2, x7_2, rfl, rfl, HA, HK2, HO_3, BK144, HB⟩ := hrel
     cases gk with
     | zero => exact absurd HA.out (by simp [platbookref01_Bits.l1])
     | succ k2 =>
      have H := HA.out
      clear HA
      simp only [platbookref01_Bits.l1] at H
      by_cases c9 : x7_2 < 64
      ·
       rw [if_pos c9] at H
       have c9b0 : decide (x7_2 < 64) = true := decide_eq_true c9
       clear c9
       by_cases c10 : x3_2.length < 17592186044416
       ·
        rw [if_pos c10] at H
        have LMc10 := Aside0.mk c10
        clear c10
        obtain ⟨y151, hy151⟩ : ∃ y_ : List Int, y_ = (x3_2 ++ [wrap64 (Int.tmod x5_2 2)]) := ⟨_, rfl⟩
        replace H : (platbookref01_Bits.l1 k2 y151 (IntKind.u64.wrap (Int.tdiv x5_2 2)) (wrap64 (x7_2 + 1))) = some r := by first | (rw [hy151]; with_reducible exact H) | (have H2_ := (Option.bind_some _ _).symm.trans H; rw [hy151]; with_reducible exact H2_) | (have H2_ := (Option.bind_some _ _).symm.trans H; with_reducible exact H2_) | with_reducible exact H | (rw [hy151]; exact H) | exact H
        have Ny151 := Aside0.mk hy151
        clear hy151
        have H' := Aside0.mk H
        clear H
        go_wp2_with (first | ((with_reducible refine gate_builtin (b := .append) (xs := #[.tmp 29, .tmp 33]) rfl ?_); at_builtin; refine Kd.R_append (Kd.int .i64) (w0 := w) w.heap.size rfl (.tmp 29) (.tmp 33) 91 3 (.int .i64 0) 8 rfl Tryz.underlying91 info3 rfl (by decide) (by omega) u3 x3_2 (wrap64 (Int.tmod x5_2 2)) [.int .i64 (wrap64 (Int.tmod x5_2 2))] (fun _ => True) (fun _ => False) rfl rfl ?aP (fun _ hk => hk.elim) ?aF ?aO ?aB ?aS ?aL ?_; (case aP => exact rfl); (case aB => exact (pb_ HB)); (case aF => exact (fun _ _ => trivial)); (case aO => exact (by (with_reducible repeat (first | apply Kd.R_alloc | apply Kd.R_drewN | apply Kd.R_drew)); exact HO_3.out)); (case aS => exact (below_size (pb_ HB))); (case aL => have := LMc10.out; omega); intro v152 w11 ho hb hg hat; rw [← Ny151.out] at ho; have HO153 := Aside0.mk (ho); replace BK144 := Aside0.mk (blk_grown (g := gb144) (o := .cells #[.int .u64 a0_0, .int .u64 a0_1] 24 (0, 0)) (pk_ BK144) hg (Kd.R_ne HO_3.out BK144.out (by decide))); replace HB := Aside0.mk (hb); clear HO_3; clear ho hb hg hat))
        go_roundg k2
        case measure => have := HK1.out; have := HK2.out; omega
        case rel => exact ⟨(y151), (IntKind.u64.wrap (Int.tdiv x5_2 2)), (wrap64 (x7_2 + 1)), (by first | rfl | (simp; done) | (simp [*]; done)), (by first | rfl | (simp; done) | (simp [*]; done)), H', ⟨by have := HK1.out; have := HK2.out; omega⟩, ⟨by (with_reducible repeat (first | apply Kd.R_alloc | apply Kd.R_drewN | apply Kd.R_drew)); exact HO153.out⟩, ⟨by refine pw_ ?_; exact BK144.out⟩, ⟨pb_ HB⟩⟩
       ·
        rw [if_neg c10] at H
        exact absurd H (by simp)
      ·
       rw [if_neg c9] at H
       have c9b0 : decide (x7_2 < 64) = false := decide_eq_false c9
       clear c9
       obtain rfl := Option.some.inj H
       go_wp2
       go_ret
       exact ⟨_, by first | rfl | (simp [errW_none, errW_some] <;> rfl) | (simp [*, errW_none, errW_some] <;> rfl), by (with_reducible repeat (first | apply Kd.R_alloc | apply Kd.R_drewN | apply Kd.R_drew)); exact HO_3.out, pb_ HB⟩

def platbookref03_Row.l0 : Nat → List Int → List Int → Int → Option (List Int)
 | 0, _, _, _ => none
 | k + 1, x3, x4, x5 => if x5 ≥ 0 then (if 0 ≤ x5 then (if x5 < (x3.length : Int) then (if x4.length < 17592186044416 then (platbookref03_Row.l0 k x3 (x4 ++ [rd x3 x5]) (wrap64 (x5 - 1))) else (none)) else (none)) else (none)) else (some x4)
def platbookref03_Row.f (k : Nat) (a0_0 : Bool) (a0_1 : Int) (a0_2 : Int) : Option (List Int) := (platbookref01_Bits.f k a0_1 a0_2).bind fun t155 => ((platbookref02_Width.f a0_0 a0_1 a0_2).bind fun t161 => (platbookref03_Row.l0 k t155 (([] : List Int)) (wrap64 (t161 - 1))))
set_option maxHeartbeats 8000000 in
set_option maxRecDepth 100000 in
theorem platbookref03_Row.calls (k : Nat) (a0_0 : Bool) (a0_1 : Int) (a0_2 : Int) (r : List Int) (w : World) (h : platbookref03_Row.f k a0_0 a0_1 a0_2 = some r) :
  Calls Tryz.prog 83 #[.agg #[.bool a0_0, .int .u64 a0_1, .int .u64 a0_2]] w fun e w' => ∃ v0_ : Value, e = .returned (v0_) ∧ Kd.R (Kd.int .i64) 3 w' w.heap.size (fun _ => True) v0_ r ∧ Below w.heap.size w w' := by
 have hu26 := Tryz.underlying26
 have hu24 := Tryz.underlying24
 have HB := Aside0.mk (Below.refl w.heap.size w)
 have H : ((platbookref01_Bits.f k a0_1 a0_2).bind fun t155 => ((platbookref02_Width.f a0_0 a0_1 a0_2).bind fun t161 => (platbookref03_Row.l0 k t155 (([] : List Int)) (wrap64 (t161 - 1))))) = some r := h
 clear h
 replace H := Option.bind_eq_some_iff.mp H
 obtain ⟨t155, A20, H⟩ := H
 replace H : ((platbookref02_Width.f a0_0 a0_1 a0_2).bind fun t161 => (platbookref03_Row.l0 k t155 (([] : List Int)) (wrap64 (t161 - 1)))) = some r := H
 have A2 := Aside0.mk A20
 clear A20
 obtain ⟨y158, hy158⟩ : ∃ y_ : List Int, y_ = (([] : List Int)) := ⟨_, rfl⟩
 replace H : ((platbookref02_Width.f a0_0 a0_1 a0_2).bind fun t161 => (platbookref03_Row.l0 k t155 y158 (wrap64 (t161 - 1)))) = some r := by first | (rw [hy158]; with_reducible exact H) | (have H2_ := (Option.bind_some _ _).symm.trans H; rw [hy158]; with_reducible exact H2_) | (have H2_ := (Option.bind_some _ _).symm.trans H; with_reducible exact H2_) | with_reducible exact H | (rw [hy158]; exact H) | exact H
 have Ny158 := Aside0.mk hy158
 clear hy158
 replace H := Option.bind_eq_some_iff.mp H
 obtain ⟨t161, A30, H⟩ := H
 replace H : (platbookref03_Row.l0 k t155 y158 (wrap64 (t161 - 1))) = some r := H
 have A3 := Aside0.mk A30
 clear A30
 have H' := Aside0.mk H
 clear H
 go_enter Tryz.func83, Tryz.ntmps83
 go_wp2_with (first | ((with_reducible refine gate_dst (N := 1) rfl ?_); refine bx_ 1 #[.bool a0_0, .int .u64 a0_1, .int .u64 a0_2] 26 ?_; intro gb154 hg w4 hbox hb; have BK154 := Aside0.mk (hbox); have GW154 := gw_ HB hg; have GE154 := gw_ HB hg; replace HB := bs_ HB hb; clear hb hbox hg; obtain ⟨hcz5_0, hcz5_1, hcz5_2, hfz5_0, hfz5_1, hfz5_2⟩ := c3_ BK154) | ((with_reducible refine gate_callee (f := 92) rfl ?_); refine gl_ (some 8) Tryz.func92 #[.agg #[.int .u64 a0_1, .int .u64 a0_2]] ?_; (with_reducible refine (platbookref01_Bits.calls k a0_1 a0_2 t155 _ A2.out).mono ?_); rintro e w6 ⟨v156, rfl, ho0, hb⟩; refine ⟨_, rfl, ?_⟩; have HO157 := Aside0.mk (Kd.R_lower ho0 (below_size (pb_ HB))); replace BK154 := bb_ BK154 hb; replace HB := bs_ HB hb; (try clear hb); (try clear hb2); (try clear hk); (try clear hi); (try clear ho0)) | ((with_reducible refine gate_dst (N := 9) rfl ?_); refine Kd.R_lit (Kd.int .i64) _ 3 ?hg (N := 9) ?hd (xs := ([] : List Int)) (inner := []) (ok := fun _ => True) (okp := fun _ => True) ?hr ?hp (fun _ hk => hk) trivial (Below.refl _ _) (Nat.le_refl _) (by simp) ?_; (case hd => rfl); (case hg => rfl); (case hr => first | (go_simp; done) | (go_simp; rfl)); (case hp => exact (Reps.none _ _)); intro v159 w7 ho8 hb hg_ hnew_; clear hg_ hnew_; (first | rw [← Ny158.out] at ho8 | (simp only [Int.reduceToNat] at ho8; rw [← Ny158.out] at ho8)); have HO160 := Aside0.mk (Kd.R_lower (Kd.R_new' ho8 (Kd.R_lt (by (with_reducible repeat (first | apply Kd.R_alloc | apply Kd.R_drewN | apply Kd.R_drew)); exact HO157.out))) (below_size (pb_ HB))); replace HO157 := Aside0.mk (Kd.R_elder' (by (with_reducible repeat (first | apply Kd.R_alloc | apply Kd.R_drewN | apply Kd.R_drew)); exact HO157.out) (Kd.R_base ho8) hb); replace BK154 := bb_ BK154 hb; replace HB := bs_ HB hb; clear hb ho8; obtain ⟨hcz9_0, hcz9_1, hcz9_2, hfz9_0, hfz9_1, hfz9_2⟩ := c3_ BK154) | ((with_reducible refine gate_callee (f := 23) rfl ?_); refine gl_ (some 11) Tryz.func23 #[.agg #[.bool a0_0, .int .u64 a0_1, .int .u64 a0_2]] ?_; (with_reducible refine (platbookref02_Width.calls a0_0 a0_1 a0_2 t161 _ A3.out).mono ?_); rintro e w10 ⟨rfl, hb⟩; refine ⟨_, rfl, ?_⟩; replace HO157 := Aside0.mk (Kd.R_below (by (with_reducible repeat (first | apply Kd.R_alloc | apply Kd.R_drewN | apply Kd.R_drew)); exact HO157.out) hb); replace HO160 := Aside0.mk (Kd.R_below (by (with_reducible repeat (first | apply Kd.R_alloc | apply Kd.R_drewN | apply Kd.R_drew)); exact HO160.out) hb); replace BK154 := bb_ BK154 hb; replace HB := bs_ HB hb; (try clear hb); (try clear hb2); (try clear hk); (try clear hi)))
 go_loopg [4, 5] k (fun kq v4 v5 w' => ∃ (x4_1 : List Int) (x5_1 : Int), v5 = .int .i64 x5_1 ∧ Aside0 (platbookref03_Row.l0 kq t155 x4_1 x5_1 = some r) ∧ Aside0 (kq ≤ k) ∧ Aside0 (Kd.R (Kd.int .i64) 3 w' w.heap.size (fun k_ => some k_ ≠ (v4 : Value).ownBlock) v156 t155) ∧ Aside0 (Kd.R (Kd.int .i64) 3 w' w.heap.size (fun k_ => some k_ ≠ (v156 : Value).ownBlock) v4 x4_1) ∧ Aside0 (w'.heap[gb154]? = some (.cells #[.bool a0_0, .int .u64 a0_1, .int .u64 a0_2] 26 (0, 0))) ∧ Aside0 (Below w.heap.size w w'))
 case atStart => exact ⟨(y158), (wrap64 (t161 - 1)), (by first | rfl | (simp; done) | (simp [*]; done)), H', ⟨Nat.le_refl _⟩, ⟨by (with_reducible repeat (first | apply Kd.R_alloc | apply Kd.R_drewN | apply Kd.R_drew)); exact Kd.R_mono HO157.out (fun _ hk => hk.2)⟩, ⟨by (with_reducible repeat (first | apply Kd.R_alloc | apply Kd.R_drewN | apply Kd.R_drew)); exact Kd.R_mono HO160.out (fun _ hk => hk.2)⟩, ⟨by refine pw_ ?_; exact BK154.out⟩, ⟨pb_ HB⟩⟩
 case round =>
  clear H'
  try clear c2
  try clear p2
  try clear p6
  try clear c8
  try clear c9
  try clear hcz5_0
  try clear hcz5_1
  try clear hcz5_2
  try clear hcz9_0
  try clear hcz9_1
  try clear hcz9_2
  try clear hfz5_0
  try clear hfz5_1
  try clear hfz5_2
  try clear hfz9_0
  try clear hfz9_1
  try clear hfz9_2
  obtain ⟨x4_1, x5_1, rfl, HA, HK1, HO_3, HO_4, BK154, HB⟩ := hrel
  cases gk with
  | zero => exact absurd HA.out (by simp [platbookref03_Row.l0])
  | succ k1 =>
   have H := HA.out
   clear HA
   simp only [platbookref03_Row.l0] at H
   by_cases c11 : x5_1 ≥ 0
   ·
    rw [if_pos c11] at H
    have c11b0 : decide (0 ≤ x5_1) = true := decide_eq_true c11
    clear c11
    by_cases c12 : 0 ≤ x5_1
    ·
     rw [if_pos c12] at H
     have c12b0 : decide (0 ≤ x5_1) = true := decide_eq_true c12
     clear c12
     by_cases c13 : x5_1 < (t155.length : Int)
     ·
      rw [if_pos c13] at H
      have c13b0 : decide (x5_1 < (t155.length : Int)) = true := decide_eq_true c13
      clear c13
      by_cases c14 : x4_1.length < 17592186044416
      ·
       rw [if_pos c14] at H
       have LMc14 := Aside0.mk c14
       clear c14
       obtain ⟨y163, hy163⟩ : ∃ y_ : List Int, y_ = (x4_1 ++ [rd t155 x5_1]) := ⟨_, rfl⟩
       replace H : (platbookref03_Row.l0 k1 t155 y163 (wrap64 (x5_1 - 1))) = some r := by first | (rw [hy163]; with_reducible exact H) | (have H2_ := (Option.bind_some _ _).symm.trans H; rw [hy163]; with_reducible exact H2_) | (have H2_ := (Option.bind_some _ _).symm.trans H; with_reducible exact H2_) | with_reducible exact H | (rw [hy163]; exact H) | exact H
       have Ny163 := Aside0.mk hy163
       clear hy163
       have H' := Aside0.mk H
       clear H
       obtain ⟨Ao15, co15, eo15⟩ := Kd.R_slice HO_3.out
       subst eo15
       have p162 : 0 ≤ (x5_1 : Int) := of_decide_eq_true (by first | (with_reducible assumption) | assumption)
       have q162 : x5_1 < (t155.length : Int) := of_decide_eq_true (by first | (with_reducible assumption) | assumption)
       obtain ⟨ad162, e162, hx162_0⟩ := Kd.at_int (Kd.R_reads' HO_3.out).2.2 x5_1 p162 q162
       cases e162
       replace p162 := eq_true p162
       replace q162 := eq_true q162
       go_wp2_with (first | ((with_reducible refine gate_builtin (b := .append) (xs := #[.tmp 17, .tmp 22]) rfl ?_); at_builtin; refine Kd.R_append (Kd.int .i64) (w0 := w) w.heap.size rfl (.tmp 17) (.tmp 22) 91 3 (.int .i64 0) 8 rfl Tryz.underlying91 info3 rfl (by decide) (by omega) u4 x4_1 (rd t155 x5_1) [.int .i64 (rd t155 x5_1)] (fun k_ => some k_ ≠ (.slice (some ad162) t155.length co15 : Value).ownBlock) (fun _ => False) rfl rfl ?aP (fun _ hk => hk.elim) ?aF ?aO ?aB ?aS ?aL ?_; (case aP => exact rfl); (case aB => exact (pb_ HB)); (case aF => exact (fun k_ hk => Kd.fresh' (Kd.R_lt (by (with_reducible repeat (first | apply Kd.R_alloc | apply Kd.R_drewN | apply Kd.R_drew)); exact HO_3.out)) k_ hk)); (case aO => exact (by (with_reducible repeat (first | apply Kd.R_alloc | apply Kd.R_drewN | apply Kd.R_drew)); exact HO_4.out)); (case aS => exact (below_size (pb_ HB))); (case aL => have := LMc14.out; omega); intro v164 w16 ho hb hg hat; rw [← Ny163.out] at ho; have HO165 := Aside0.mk (ho); replace HO_3 := Aside0.mk (Kd.R_after (ok := (fun _ => True)) (by (with_reducible repeat (first | apply Kd.R_alloc | apply Kd.R_drewN | apply Kd.R_drew)); exact Kd.R_mono HO_3.out (fun _ hk => ⟨trivial, hk⟩)) hg hat); replace BK154 := Aside0.mk (blk_grown (g := gb154) (o := .cells #[.bool a0_0, .int .u64 a0_1, .int .u64 a0_2] 26 (0, 0)) (pk_ BK154) hg (Kd.R_ne HO_4.out BK154.out (by decide))); replace HB := Aside0.mk (hb); clear HO_4; clear ho hb hg hat))
       go_roundg k1
       case measure => have := HK1.out; omega
       case rel => exact ⟨(y163), (wrap64 (x5_1 - 1)), (by first | rfl | (simp; done) | (simp [*]; done)), H', ⟨by have := HK1.out; omega⟩, ⟨by (with_reducible repeat (first | apply Kd.R_alloc | apply Kd.R_drewN | apply Kd.R_drew)); exact Kd.R_mono HO_3.out (fun _ hk => hk.2)⟩, ⟨by (with_reducible repeat (first | apply Kd.R_alloc | apply Kd.R_drewN | apply Kd.R_drew)); exact HO165.out⟩, ⟨by refine pw_ ?_; exact BK154.out⟩, ⟨pb_ HB⟩⟩
      ·
       rw [if_neg c14] at H
       exact absurd H (by simp)
     ·
      rw [if_neg c13] at H
      exact absurd H (by simp)
    ·
     rw [if_neg c12] at H
     exact absurd H (by simp)
   ·
    rw [if_neg c11] at H
    have c11b0 : decide (0 ≤ x5_1) = false := decide_eq_false c11
    clear c11
    obtain rfl := Option.some.inj H
    go_wp2
    go_ret
    exact ⟨_, by first | rfl | (simp [errW_none, errW_some] <;> rfl) | (simp [*, errW_none, errW_some] <;> rfl), by (with_reducible repeat (first | apply Kd.R_alloc | apply Kd.R_drewN | apply Kd.R_drew)); exact Kd.R_mono HO_4.out (fun _ hk => trivial), pb_ HB⟩

mutual
def platbookref01_Num.l0 : Nat → List Int → Int → Int → Int → Option (Int × Int)
 | 0, _, _, _, _ => none
 | k + 1, x0, x4, x168000, x168001 => if x4 ≥ 64 then (if x4 < (x0.length : Int) then (if 0 ≤ x4 then (platbookref01_Num.l0 k x0 (wrap64 (x4 - 1)) (IntKind.u64.wrap ((IntKind.u64.wrap (x168000 * 2)) + (IntKind.u64.wrap (rd x0 x4)))) x168001) else (none)) else (platbookref01_Num.l0 k x0 (wrap64 (x4 - 1)) (IntKind.u64.wrap (x168000 * 2)) x168001)) else (platbookref01_Num.l1 k x0 63 x168000 x168001)
def platbookref01_Num.l1 : Nat → List Int → Int → Int → Int → Option (Int × Int)
 | 0, _, _, _, _ => none
 | k + 1, x0, x5, x168000, x168001 => if x5 ≥ 0 then (if x5 < (x0.length : Int) then (if 0 ≤ x5 then (platbookref01_Num.l1 k x0 (wrap64 (x5 - 1)) x168000 (IntKind.u64.wrap ((IntKind.u64.wrap (x168001 * 2)) + (IntKind.u64.wrap (rd x0 x5))))) else (none)) else (platbookref01_Num.l1 k x0 (wrap64 (x5 - 1)) x168000 (IntKind.u64.wrap (x168001 * 2)))) else (some (x168000, x168001))
end
def platbookref01_Num.f (k : Nat) (l0 : List Int) : Option (Int × Int) := platbookref01_Num.l0 k l0 127 0 0
def platbookref01_Num.T7 : Bool × List (List Nat × List Nat) := (true, [([], []), ([0], [0]), ([], []), ([], []), ([2, 3], [2, 3]), ([4], [4]), ([5], [5]), ([1, 6], [1, 6]), ([0, 1, 2, 3, 4, 5, 6, 7], []), ([8, 7, 0, 1, 2, 3, 4, 5, 6, 7], [7, 8])])
def platbookref01_Num.B7 : List Nat := [0, 1, 0, 0, 12, 28, 60, 127, 255, 511]
theorem platbookref01_Num.tab7 : rtab .any (opsOf Tryz.f107 7) = platbookref01_Num.T7 := by kernel_rfl
theorem platbookref01_Num.bits7 : waitsOk platbookref01_Num.T7.2 platbookref01_Num.B7 = true := by kernel_rfl
def platbookref01_Num.T13 : Bool × List (List Nat × List Nat) := (true, [([], []), ([0], [0]), ([], []), ([], []), ([2, 3], [2, 3]), ([4], [4]), ([5], [5]), ([1, 6], [1, 6]), ([0, 1, 2, 3, 4, 5, 6, 7], []), ([8, 7, 0, 1, 2, 3, 4, 5, 6, 7], [7, 8])])
def platbookref01_Num.B13 : List Nat := [0, 1, 0, 0, 12, 28, 60, 127, 255, 511]
theorem platbookref01_Num.tab13 : rtab .any (opsOf Tryz.f107 13) = platbookref01_Num.T13 := by kernel_rfl
theorem platbookref01_Num.bits13 : waitsOk platbookref01_Num.T13.2 platbookref01_Num.B13 = true := by kernel_rfl
set_option maxHeartbeats 8000000 in
set_option maxRecDepth 100000 in
theorem platbookref01_Num.calls (k : Nat) (A0 : Option Addr) (c0 : Nat) (l0 : List Int) (r1 : Int) (r2 : Int) (w : World) (hr0 : Kd.C (Kd.int .i64) w A0 l0.length l0) (hc0 : l0.length ≤ c0) (h : platbookref01_Num.f k l0 = some (r1, r2)) :
  Calls Tryz.prog 107 #[.slice A0 l0.length c0] w fun e w' => e = .returned (.agg #[.int .u64 r1, .int .u64 r2]) ∧ Below w.heap.size w w' := by
 have hu24 := Tryz.underlying24
 have HR0 := Aside0.mk hr0
 have HC0 := Aside0.mk hc0
 clear hr0 hc0
 have HB := Aside0.mk (Below.refl w.heap.size w)
 have H : (platbookref01_Num.l0 k l0 127 0 0) = some (r1, r2) := h
 clear h
 have H' := Aside0.mk H
 clear H
 go_enter Tryz.func107, Tryz.ntmps107
 go_wp2_with (first | ((with_reducible refine gate_dst (N := 2) rfl ?_); refine bx_ 2 #[.int .u64 0, .int .u64 0] 24 ?_; intro gb166 hg w2 hbox hb; have BK166 := Aside0.mk (hbox); have GW166 := gw_ HB hg; have GE166 := gw_ HB hg; replace HB := bs_ HB hb; clear hb hbox hg) | ((with_reducible refine gate_dst (N := 3) rfl ?_); refine bx_ 3 #[.int .u64 0, .int .u64 0] 24 ?_; intro gb167 hg w3 hbox hb; have BK167 := Aside0.mk (hbox); have GW167 := gw_ HB hg; have GE167 := gw_ HB hg; have NB166_167 := nl_ BK166 hg; have NB167_166 := ng_ BK166 hg; replace BK166 := bb_ BK166 hb; replace HB := bs_ HB hb; clear hb hbox hg; have hnb4 := NB167_166.out; have hnc4 := NB166_167.out; obtain ⟨hcz5_0, hcz5_1, hfz5_0, hfz5_1⟩ := c2_ BK167))
 go_loopg [4] k (fun kq v4 w' => ∃ (x4_1 : Int) (x168000_1 : Int), v4 = .int .i64 x4_1 ∧ Aside0 (platbookref01_Num.l0 kq l0 x4_1 x168000_1 0 = some (r1, r2)) ∧ Aside0 (kq ≤ k) ∧ Aside0 (w'.heap[gb166]? = some (.cells #[.int .u64 0, .int .u64 0] 24 (0, 0))) ∧ Aside0 (w'.heap[gb167]? = some (.cells #[.int .u64 x168000_1, .int .u64 0] 24 (0, 0))) ∧ Aside0 (Below w.heap.size w w'))
 case atStart => exact ⟨(127), (0), (by first | rfl | (simp; done) | (simp [*]; done)), H', ⟨Nat.le_refl _⟩, ⟨by refine pw_ ?_; refine blk_far ?_ NB166_167.out _; refine pw_ ?_; refine blk_far ?_ NB166_167.out _; refine pw_ ?_; exact BK166.out⟩, ⟨by refine pw_ ?_; refine blk_put (cs := #[.int .u64 0, .int .u64 0]) ?_ 1 _ rfl; refine pw_ ?_; refine blk_put (cs := #[.int .u64 0, .int .u64 0]) ?_ 0 _ rfl; refine pw_ ?_; exact BK167.out⟩, ⟨pb_ HB⟩⟩
 case round =>
  clear H'
  try clear c1
  try clear p2
  try clear c4
  try clear hcz5_0
  try clear hcz5_1
  try clear hfz5_0
  try clear hfz5_1
  obtain ⟨x4_1, x168000_1, rfl, HA, HK1, BK166, BK167, HB⟩ := hrel
  cases gk with
  | zero => exact absurd HA.out (by simp [platbookref01_Num.l0])
  | succ k1 =>
   have H := HA.out
   clear HA
   simp only [platbookref01_Num.l0] at H
   by_cases c6 : x4_1 ≥ 64
   ·
    rw [if_pos c6] at H
    have c6b0 : decide (64 ≤ x4_1) = true := decide_eq_true c6
    clear c6
    by_cases c7 : x4_1 < (l0.length : Int)
    ·
     rw [if_pos c7] at H
     have c7b0 : decide (x4_1 < (l0.length : Int)) = true := decide_eq_true c7
     clear c7
     by_cases c8 : 0 ≤ x4_1
     ·
      rw [if_pos c8] at H
      have c8b0 : decide (0 ≤ x4_1) = true := decide_eq_true c8
      clear c8
      have H' := Aside0.mk H
      clear H
      have hnb9 := NB167_166.out
      have hnc9 := NB166_167.out
      obtain ⟨hcz10_0, hcz10_1, hfz10_0, hfz10_1⟩ := c2_ BK167
      try go_wp2
      have n0_ : Aside0 ((wr.setCell ⟨gb167, 0, none⟩ (.int .u64 (IntKind.u64.wrap (x168000_1 * 2)))).heap[gb166]? = some (.cells #[.int .u64 0, .int .u64 0] 24 (0, 0))) := ⟨by refine pw_ ?_; refine blk_far ?_ NB166_167.out _; refine pw_ ?_; exact BK166.out⟩
      have n1_ : Aside0 ((wr.setCell ⟨gb167, 0, none⟩ (.int .u64 (IntKind.u64.wrap (x168000_1 * 2)))).heap[gb167]? = some (.cells #[.int .u64 (IntKind.u64.wrap (x168000_1 * 2)), .int .u64 0] 24 (0, 0))) := ⟨by refine pw_ ?_; refine blk_put (cs := #[.int .u64 x168000_1, .int .u64 0]) ?_ 0 _ rfl; refine pw_ ?_; exact BK167.out⟩
      have n2_ : Aside0 (Below w.heap.size w (wr.setCell ⟨gb167, 0, none⟩ (.int .u64 (IntKind.u64.wrap (x168000_1 * 2))))) := ⟨pb_ HB⟩
      (try clear BK166)
      (try clear BK167)
      (try clear HB)
      generalize (wr.setCell ⟨gb167, 0, none⟩ (.int .u64 (IntKind.u64.wrap (x168000_1 * 2)))) = w11 at n0_ n1_ n2_ ⊢
      have BK166 := n0_
      have BK167 := n1_
      have HB := n2_
      clear n0_ n1_ n2_
      replace BK166 := Aside0.mk (blk_drew BK166.out)
      replace BK167 := Aside0.mk (blk_drew BK167.out)
      replace HB := Aside0.mk (below_drew1 HB.out)
      have p168 : 0 ≤ (x4_1 : Int) := of_decide_eq_true (by first | (with_reducible assumption) | assumption)
      have q168 : x4_1 < (l0.length : Int) := of_decide_eq_true (by first | (with_reducible assumption) | assumption)
      obtain ⟨ad168, e168, hx168_0⟩ := Kd.at_int HR0.out x4_1 p168 q168
      have hw168_0 := hx168_0
      cases e168
      replace hx168_0 := (HB.out.cell (World.block_lt_of_cell? w _ hx168_0)).trans hx168_0
      replace p168 := eq_true p168
      replace q168 := eq_true q168
      refine start_ (n := 10) (S := fun w' => w'.cell? ⟨gb167, 0, none⟩ = some (.int .u64 (IntKind.u64.wrap (x168000_1 * 2))) ∧ w'.cell? ⟨gb167, 1, none⟩ = some (.int .u64 0) ∧ w'.cell? (ad168.add (x4_1).toNat) = some (.int .i64 (rd l0 x4_1))) (ds := [9]) (bm_ 10 0) (by kernel_rfl) rfl rfl ⟨kc_ BK167 0, kc_ BK167 1, ((HB.out.cell (World.block_lt_of_cell? w _ hw168_0)).trans hw168_0)⟩ (fun hHeld => ?_); refine with_tabW platbookref01_Num.tab7 platbookref01_Num.bits7 (fun HT_ HW_ => ?_)
      generalize w11.drew = w12 at BK166 BK167 HB hx168_0 hHeld ⊢
      refine pu_ 0 (some 19) (bm_ 10 1) rfl HT_ ⟨by rfl, by intro w'; go_simp; with_reducible rfl⟩ ?_
      refine pu_ 2 (some 21) (bm_ 10 5) rfl HT_ ⟨by rfl, by intro w'; go_simp; with_reducible rfl⟩ ?_
      refine pu_ 3 (some 22) (bm_ 10 13) rfl HT_ ⟨by rfl, by intro w'; go_simp; with_reducible rfl⟩ ?_
      refine pu_ 4 (some 23) (bm_ 10 29) rfl HT_ ⟨by rfl, by intro w'; go_simp; with_reducible rfl⟩ ?_
      refine ta_ 1 (some 20) (bm_ 10 31) rfl HT_ HW_ ⟨by rfl, by rintro w' ⟨s0, s1, s2⟩; go_simp; with_reducible rfl⟩ hHeld ?_
      refine ta_ 5 (some 24) (bm_ 10 63) rfl HT_ HW_ ⟨by rfl, by rintro w' ⟨s0, s1, s2⟩; go_simp; with_reducible rfl⟩ hHeld ?_
      refine pu_ 6 (some 25) (bm_ 10 127) rfl HT_ ⟨by rfl, by intro w'; go_simp; with_reducible rfl⟩ ?_
      refine pu_ 7 (some 26) (bm_ 10 255) rfl HT_ ⟨by rfl, by intro w'; go_simp; with_reducible rfl⟩ ?_
      refine pu_ 8 (some 27) (bm_ 10 511) rfl HT_ ⟨by rfl, by intro w'; go_simp; with_reducible rfl⟩ ?_
      refine last_ (i := 9) (N := none) (bm_ 10 1023) rfl rfl (one_of HT_.out (by kernel_rfl)) (by decide) (fun K hK => ?_)
      have hs13 : w12.cell? ⟨gb167, 0, none⟩ = some (.int .u64 (IntKind.u64.wrap (x168000_1 * 2))) := kc_ BK167 0
      have hfs13 := blk_frozen BK167.out 0
      have hns13_0 := NB166_167.out
      have hms13_0 := NB167_166.out
      refine skip_ (w1 := ?_) (by rfl) rfl ?_ ?_
      rotate_left
      ·
       go_simp
       rfl
      refine hK.out _ _ ?_
      clear hK K
      refine done_ (done_of HT_.out (by kernel_rfl)) ?_
      try go_wp2
      go_roundg k1
      case measure => have := HK1.out; omega
      case rel => exact ⟨(wrap64 (x4_1 - 1)), (IntKind.u64.wrap ((IntKind.u64.wrap (x168000_1 * 2)) + (IntKind.u64.wrap (rd l0 x4_1)))), (by first | rfl | (simp; done) | (simp [*]; done)), H', ⟨by have := HK1.out; omega⟩, ⟨by refine pw_ ?_; refine blk_far ?_ NB166_167.out _; refine pw_ ?_; exact BK166.out⟩, ⟨by refine pw_ ?_; refine blk_put (cs := #[.int .u64 (IntKind.u64.wrap (x168000_1 * 2)), .int .u64 0]) ?_ 0 _ rfl; refine pw_ ?_; exact BK167.out⟩, ⟨pb_ HB⟩⟩
     ·
      rw [if_neg c8] at H
      exact absurd H (by simp)
    ·
     rw [if_neg c7] at H
     have c7b0 : decide (x4_1 < (l0.length : Int)) = false := decide_eq_false c7
     clear c7
     have H' := Aside0.mk H
     clear H
     have hnb14 := NB167_166.out
     have hnc14 := NB166_167.out
     obtain ⟨hcz15_0, hcz15_1, hfz15_0, hfz15_1⟩ := c2_ BK167
     go_wp2
     go_roundg k1
     case measure => have := HK1.out; omega
     case rel => exact ⟨(wrap64 (x4_1 - 1)), (IntKind.u64.wrap (x168000_1 * 2)), (by first | rfl | (simp; done) | (simp [*]; done)), H', ⟨by have := HK1.out; omega⟩, ⟨by refine pw_ ?_; refine blk_far ?_ NB166_167.out _; refine pw_ ?_; exact BK166.out⟩, ⟨by refine pw_ ?_; refine blk_put (cs := #[.int .u64 x168000_1, .int .u64 0]) ?_ 0 _ rfl; refine pw_ ?_; exact BK167.out⟩, ⟨pb_ HB⟩⟩
   ·
    rw [if_neg c6] at H
    have c6b0 : decide (64 ≤ x4_1) = false := decide_eq_false c6
    clear c6
    have H' := Aside0.mk H
    clear H
    go_wp2
    go_loopg [5] k1 (fun kq v5 w' => ∃ (x5_2 : Int) (x168001_2 : Int), v5 = .int .i64 x5_2 ∧ Aside0 (platbookref01_Num.l1 kq l0 x5_2 x168000_1 x168001_2 = some (r1, r2)) ∧ Aside0 (kq ≤ k1) ∧ Aside0 (w'.heap[gb166]? = some (.cells #[.int .u64 0, .int .u64 0] 24 (0, 0))) ∧ Aside0 (w'.heap[gb167]? = some (.cells #[.int .u64 x168000_1, .int .u64 x168001_2] 24 (0, 0))) ∧ Aside0 (Below w.heap.size w w'))
    case atStart => exact ⟨(63), (0), (by first | rfl | (simp; done) | (simp [*]; done)), H', ⟨Nat.le_refl _⟩, ⟨by refine pw_ ?_; exact BK166.out⟩, ⟨by refine pw_ ?_; exact BK167.out⟩, ⟨pb_ HB⟩⟩
    case round =>
     clear H'
     try clear c1
     try clear p1
     try clear q1
     try clear hx1
     try clear p2
     try clear c4
     try clear c6
     try clear c6b0
     try clear p6
     try clear c7
     try clear c7b0
     try clear c8
     try clear c8b0
     try clear c9
     try clear c10
     try clear c14
     try clear hcz10_0
     try clear hcz10_1
     try clear hcz15_0
     try clear hcz15_1
     try clear hcz5_0
     try clear hcz5_1
     try clear hfz10_0
     try clear hfz10_1
     try clear hfz15_0
     try clear hfz15_1
     try clear hfz5_0
     try clear hfz5_1
     try clear hx168_0
     try clear p168
     try clear p2
     try clear q168
     obtain ⟨x5_2, x168001_2, rfl, HA, HK2, BK166, BK167, HB⟩ := hrel
     cases gk with
     | zero => exact absurd HA.out (by simp [platbookref01_Num.l1])
     | succ k2 =>
      have H := HA.out
      clear HA
      simp only [platbookref01_Num.l1] at H
      by_cases c16 : x5_2 ≥ 0
      ·
       rw [if_pos c16] at H
       have c16b0 : decide (0 ≤ x5_2) = true := decide_eq_true c16
       clear c16
       by_cases c17 : x5_2 < (l0.length : Int)
       ·
        rw [if_pos c17] at H
        have c17b0 : decide (x5_2 < (l0.length : Int)) = true := decide_eq_true c17
        clear c17
        by_cases c18 : 0 ≤ x5_2
        ·
         rw [if_pos c18] at H
         have c18b0 : decide (0 ≤ x5_2) = true := decide_eq_true c18
         clear c18
         have H' := Aside0.mk H
         clear H
         have hnb19 := NB167_166.out
         have hnc19 := NB166_167.out
         obtain ⟨hcz20_0, hcz20_1, hfz20_0, hfz20_1⟩ := c2_ BK167
         try go_wp2
         have n0_ : Aside0 ((wr.setCell ⟨gb167, 1, none⟩ (.int .u64 (IntKind.u64.wrap (x168001_2 * 2)))).heap[gb166]? = some (.cells #[.int .u64 0, .int .u64 0] 24 (0, 0))) := ⟨by refine pw_ ?_; refine blk_far ?_ NB166_167.out _; refine pw_ ?_; exact BK166.out⟩
         have n1_ : Aside0 ((wr.setCell ⟨gb167, 1, none⟩ (.int .u64 (IntKind.u64.wrap (x168001_2 * 2)))).heap[gb167]? = some (.cells #[.int .u64 x168000_1, .int .u64 (IntKind.u64.wrap (x168001_2 * 2))] 24 (0, 0))) := ⟨by refine pw_ ?_; refine blk_put (cs := #[.int .u64 x168000_1, .int .u64 x168001_2]) ?_ 1 _ rfl; refine pw_ ?_; exact BK167.out⟩
         have n2_ : Aside0 (Below w.heap.size w (wr.setCell ⟨gb167, 1, none⟩ (.int .u64 (IntKind.u64.wrap (x168001_2 * 2))))) := ⟨pb_ HB⟩
         (try clear BK166)
         (try clear BK167)
         (try clear HB)
         generalize (wr.setCell ⟨gb167, 1, none⟩ (.int .u64 (IntKind.u64.wrap (x168001_2 * 2)))) = w21 at n0_ n1_ n2_ ⊢
         have BK166 := n0_
         have BK167 := n1_
         have HB := n2_
         clear n0_ n1_ n2_
         replace BK166 := Aside0.mk (blk_drew BK166.out)
         replace BK167 := Aside0.mk (blk_drew BK167.out)
         replace HB := Aside0.mk (below_drew1 HB.out)
         have p169 : 0 ≤ (x5_2 : Int) := of_decide_eq_true (by first | (with_reducible assumption) | assumption)
         have q169 : x5_2 < (l0.length : Int) := of_decide_eq_true (by first | (with_reducible assumption) | assumption)
         obtain ⟨ad169, e169, hx169_0⟩ := Kd.at_int HR0.out x5_2 p169 q169
         have hw169_0 := hx169_0
         cases e169
         replace hx169_0 := (HB.out.cell (World.block_lt_of_cell? w _ hx169_0)).trans hx169_0
         replace p169 := eq_true p169
         replace q169 := eq_true q169
         refine start_ (n := 10) (S := fun w' => w'.cell? ⟨gb167, 0, none⟩ = some (.int .u64 x168000_1) ∧ w'.cell? ⟨gb167, 1, none⟩ = some (.int .u64 (IntKind.u64.wrap (x168001_2 * 2))) ∧ w'.cell? (ad169.add (x5_2).toNat) = some (.int .i64 (rd l0 x5_2))) (ds := [9]) (bm_ 10 0) (by kernel_rfl) rfl rfl ⟨kc_ BK167 0, kc_ BK167 1, ((HB.out.cell (World.block_lt_of_cell? w _ hw169_0)).trans hw169_0)⟩ (fun hHeld => ?_); refine with_tabW platbookref01_Num.tab13 platbookref01_Num.bits13 (fun HT_ HW_ => ?_)
         generalize w21.drew = w22 at BK166 BK167 HB hx169_0 hHeld ⊢
         refine pu_ 0 (some 40) (bm_ 10 1) rfl HT_ ⟨by rfl, by intro w'; go_simp; with_reducible rfl⟩ ?_
         refine pu_ 2 (some 42) (bm_ 10 5) rfl HT_ ⟨by rfl, by intro w'; go_simp; with_reducible rfl⟩ ?_
         refine pu_ 3 (some 43) (bm_ 10 13) rfl HT_ ⟨by rfl, by intro w'; go_simp; with_reducible rfl⟩ ?_
         refine pu_ 4 (some 44) (bm_ 10 29) rfl HT_ ⟨by rfl, by intro w'; go_simp; with_reducible rfl⟩ ?_
         refine ta_ 1 (some 41) (bm_ 10 31) rfl HT_ HW_ ⟨by rfl, by rintro w' ⟨s0, s1, s2⟩; go_simp; with_reducible rfl⟩ hHeld ?_
         refine ta_ 5 (some 45) (bm_ 10 63) rfl HT_ HW_ ⟨by rfl, by rintro w' ⟨s0, s1, s2⟩; go_simp; with_reducible rfl⟩ hHeld ?_
         refine pu_ 6 (some 46) (bm_ 10 127) rfl HT_ ⟨by rfl, by intro w'; go_simp; with_reducible rfl⟩ ?_
         refine pu_ 7 (some 47) (bm_ 10 255) rfl HT_ ⟨by rfl, by intro w'; go_simp; with_reducible rfl⟩ ?_
         refine pu_ 8 (some 48) (bm_ 10 511) rfl HT_ ⟨by rfl, by intro w'; go_simp; with_reducible rfl⟩ ?_
         refine last_ (i := 9) (N := none) (bm_ 10 1023) rfl rfl (one_of HT_.out (by kernel_rfl)) (by decide) (fun K hK => ?_)
         have hs23 : w22.cell? ⟨gb167, 1, none⟩ = some (.int .u64 (IntKind.u64.wrap (x168001_2 * 2))) := kc_ BK167 1
         have hfs23 := blk_frozen BK167.out 1
         have hns23_0 := NB166_167.out
         have hms23_0 := NB167_166.out
         refine skip_ (w1 := ?_) (by rfl) rfl ?_ ?_
         rotate_left
         ·
          go_simp
          rfl
         refine hK.out _ _ ?_
         clear hK K
         refine done_ (done_of HT_.out (by kernel_rfl)) ?_
         try go_wp2
         go_roundg k2
         case measure => have := HK1.out; have := HK2.out; omega
         case rel => exact ⟨(wrap64 (x5_2 - 1)), (IntKind.u64.wrap ((IntKind.u64.wrap (x168001_2 * 2)) + (IntKind.u64.wrap (rd l0 x5_2)))), (by first | rfl | (simp; done) | (simp [*]; done)), H', ⟨by have := HK1.out; have := HK2.out; omega⟩, ⟨by refine pw_ ?_; refine blk_far ?_ NB166_167.out _; refine pw_ ?_; exact BK166.out⟩, ⟨by refine pw_ ?_; refine blk_put (cs := #[.int .u64 x168000_1, .int .u64 (IntKind.u64.wrap (x168001_2 * 2))]) ?_ 1 _ rfl; refine pw_ ?_; exact BK167.out⟩, ⟨pb_ HB⟩⟩
        ·
         rw [if_neg c18] at H
         exact absurd H (by simp)
       ·
        rw [if_neg c17] at H
        have c17b0 : decide (x5_2 < (l0.length : Int)) = false := decide_eq_false c17
        clear c17
        have H' := Aside0.mk H
        clear H
        have hnb24 := NB167_166.out
        have hnc24 := NB166_167.out
        obtain ⟨hcz25_0, hcz25_1, hfz25_0, hfz25_1⟩ := c2_ BK167
        go_wp2
        go_roundg k2
        case measure => have := HK1.out; have := HK2.out; omega
        case rel => exact ⟨(wrap64 (x5_2 - 1)), (IntKind.u64.wrap (x168001_2 * 2)), (by first | rfl | (simp; done) | (simp [*]; done)), H', ⟨by have := HK1.out; have := HK2.out; omega⟩, ⟨by refine pw_ ?_; refine blk_far ?_ NB166_167.out _; refine pw_ ?_; exact BK166.out⟩, ⟨by refine pw_ ?_; refine blk_put (cs := #[.int .u64 x168000_1, .int .u64 x168001_2]) ?_ 1 _ rfl; refine pw_ ?_; exact BK167.out⟩, ⟨pb_ HB⟩⟩
      ·
       rw [if_neg c16] at H
       have c16b0 : decide (0 ≤ x5_2) = false := decide_eq_false c16
       clear c16
       simp only [Option.some.injEq, Prod.mk.injEq] at H
       obtain ⟨rfl, rfl⟩ := H
       have hnb26 := NB167_166.out
       have hnc26 := NB166_167.out
       obtain ⟨hcz27_0, hcz27_1, hfz27_0, hfz27_1⟩ := c2_ BK167
       obtain ⟨hcz28_0, hcz28_1, hfz28_0, hfz28_1⟩ := c2_ BK166
       go_wp2
       refine bodyPost_ret (results_cell_row rfl _ _ gb166 24 #[.int .u64 x168000_1, .int .u64 x168001_2] (0, 0) _ rfl (by refine pw_ ?_; refine blk_put (cs := #[.int .u64 x168000_1, .int .u64 0]) ?_ 1 _ rfl; refine pw_ ?_; refine blk_put (cs := #[.int .u64 0, .int .u64 0]) ?_ 0 _ rfl; refine pw_ ?_; exact BK166.out) Tryz.underlying24 rfl (by kernel_rfl)) rfl ?_
       exact ⟨by first | rfl | (simp [errW_none, errW_some] <;> rfl) | (simp [*, errW_none, errW_some] <;> rfl), pb_ HB⟩

def platbookref03_Addr.l0 : Nat → Bool → List Int → List Int → Int → Option (Bool × Int × Int)
 | 0, _, _, _, _ => none
 | k + 1, x0, x1, x5, x6 => if x6 ≥ 0 then (if 0 ≤ x6 then (if x6 < (x1.length : Int) then (if x5.length < 17592186044416 then (platbookref03_Addr.l0 k x0 x1 (x5 ++ [rd x1 x6]) (wrap64 (x6 - 1))) else (none)) else (none)) else (none)) else ((platbookref01_Num.f k x5).bind fun bt178 => (some (x0, bt178.1, bt178.2)))
def platbookref03_Addr.f (k : Nat) (a0 : Bool) (l1 : List Int) : Option (Bool × Int × Int) := platbookref03_Addr.l0 k a0 l1 (([] : List Int)) (wrap64 ((l1.length : Int) - 1))
set_option maxHeartbeats 8000000 in
set_option maxRecDepth 100000 in
theorem platbookref03_Addr.calls (k : Nat) (a0 : Bool) (A1 : Option Addr) (c1 : Nat) (l1 : List Int) (r1 : Bool) (r2 : Int) (r3 : Int) (w : World) (hr1 : Kd.C (Kd.int .i64) w A1 l1.length l1) (hc1 : l1.length ≤ c1) (h : platbookref03_Addr.f k a0 l1 = some (r1, r2, r3)) :
  Calls Tryz.prog 93 #[.bool a0, .slice A1 l1.length c1] w fun e w' => e = .returned (.agg #[.bool r1, .int .u64 r2, .int .u64 r3]) ∧ Below w.heap.size w w' := by
 have hu26 := Tryz.underlying26
 have HR1 := Aside0.mk hr1
 have HC1 := Aside0.mk hc1
 clear hr1 hc1
 have HB := Aside0.mk (Below.refl w.heap.size w)
 have H : (platbookref03_Addr.l0 k a0 l1 (([] : List Int)) (wrap64 ((l1.length : Int) - 1))) = some (r1, r2, r3) := h
 clear h
 obtain ⟨y171, hy171⟩ : ∃ y_ : List Int, y_ = (([] : List Int)) := ⟨_, rfl⟩
 replace H : (platbookref03_Addr.l0 k a0 l1 y171 (wrap64 ((l1.length : Int) - 1))) = some (r1, r2, r3) := by first | (rw [hy171]; with_reducible exact H) | (have H2_ := (Option.bind_some _ _).symm.trans H; rw [hy171]; with_reducible exact H2_) | (have H2_ := (Option.bind_some _ _).symm.trans H; with_reducible exact H2_) | with_reducible exact H | (rw [hy171]; exact H) | exact H
 have Ny171 := Aside0.mk hy171
 clear hy171
 have H' := Aside0.mk H
 clear H
 go_enter Tryz.func93, Tryz.ntmps93
 go_wp2_with (first | ((with_reducible refine gate_dst (N := 4) rfl ?_); refine bx_ 4 #[.bool false, .int .u64 0, .int .u64 0] 26 ?_; intro gb170 hg w3 hbox hb; have BK170 := Aside0.mk (hbox); have GW170 := gw_ HB hg; have GE170 := gw_ HB hg; replace HB := bs_ HB hb; clear hb hbox hg) | ((with_reducible refine gate_dst (N := 7) rfl ?_); refine Kd.R_lit (Kd.int .i64) _ 3 ?hg (N := 7) ?hd (xs := ([] : List Int)) (inner := []) (ok := fun _ => True) (okp := fun _ => True) ?hr ?hp (fun _ hk => hk) trivial (Below.refl _ _) (Nat.le_refl _) (by simp) ?_; (case hd => rfl); (case hg => rfl); (case hr => first | (go_simp; done) | (go_simp; rfl)); (case hp => exact (Reps.none _ _)); intro v172 w4 ho5 hb hg_ hnew_; clear hg_ hnew_; (first | rw [← Ny171.out] at ho5 | (simp only [Int.reduceToNat] at ho5; rw [← Ny171.out] at ho5)); have HO173 := Aside0.mk (Kd.R_lower ho5 (below_size (pb_ HB))); replace BK170 := bb_ BK170 hb; replace HB := bs_ HB hb; clear hb ho5))
 go_loopg [5, 6] k (fun kq v5 v6 w' => ∃ (x5_1 : List Int) (x6_1 : Int), v6 = .int .i64 x6_1 ∧ Aside0 (platbookref03_Addr.l0 kq a0 l1 x5_1 x6_1 = some (r1, r2, r3)) ∧ Aside0 (kq ≤ k) ∧ Aside0 (Kd.R (Kd.int .i64) 3 w' w.heap.size (fun _ => True) v5 x5_1) ∧ Aside0 (w'.heap[gb170]? = some (.cells #[.bool false, .int .u64 0, .int .u64 0] 26 (0, 0))) ∧ Aside0 (Below w.heap.size w w'))
 case atStart => exact ⟨(y171), (wrap64 ((l1.length : Int) - 1)), (by first | rfl | (simp; done) | (simp [*]; done)), H', ⟨Nat.le_refl _⟩, ⟨by (with_reducible repeat (first | apply Kd.R_alloc | apply Kd.R_drewN | apply Kd.R_drew)); exact HO173.out⟩, ⟨by refine pw_ ?_; exact BK170.out⟩, ⟨pb_ HB⟩⟩
 case round =>
  clear H'
  try clear c1
  try clear p2
  obtain ⟨x5_1, x6_1, rfl, HA, HK1, HO_5, BK170, HB⟩ := hrel
  cases gk with
  | zero => exact absurd HA.out (by simp [platbookref03_Addr.l0])
  | succ k1 =>
   have H := HA.out
   clear HA
   simp only [platbookref03_Addr.l0] at H
   by_cases c6 : x6_1 ≥ 0
   ·
    rw [if_pos c6] at H
    have c6b0 : decide (0 ≤ x6_1) = true := decide_eq_true c6
    clear c6
    by_cases c7 : 0 ≤ x6_1
    ·
     rw [if_pos c7] at H
     have c7b0 : decide (0 ≤ x6_1) = true := decide_eq_true c7
     clear c7
     by_cases c8 : x6_1 < (l1.length : Int)
     ·
      rw [if_pos c8] at H
      have c8b0 : decide (x6_1 < (l1.length : Int)) = true := decide_eq_true c8
      clear c8
      by_cases c9 : x5_1.length < 17592186044416
      ·
       rw [if_pos c9] at H
       have LMc9 := Aside0.mk c9
       clear c9
       obtain ⟨y175, hy175⟩ : ∃ y_ : List Int, y_ = (x5_1 ++ [rd l1 x6_1]) := ⟨_, rfl⟩
       replace H : (platbookref03_Addr.l0 k1 a0 l1 y175 (wrap64 (x6_1 - 1))) = some (r1, r2, r3) := by first | (rw [hy175]; with_reducible exact H) | (have H2_ := (Option.bind_some _ _).symm.trans H; rw [hy175]; with_reducible exact H2_) | (have H2_ := (Option.bind_some _ _).symm.trans H; with_reducible exact H2_) | with_reducible exact H | (rw [hy175]; exact H) | exact H
       have Ny175 := Aside0.mk hy175
       clear hy175
       have H' := Aside0.mk H
       clear H
       have p174 : 0 ≤ (x6_1 : Int) := of_decide_eq_true (by first | (with_reducible assumption) | assumption)
       have q174 : x6_1 < (l1.length : Int) := of_decide_eq_true (by first | (with_reducible assumption) | assumption)
       obtain ⟨ad174, e174, hx174_0⟩ := Kd.at_int HR1.out x6_1 p174 q174
       cases e174
       replace hx174_0 := (HB.out.cell (World.block_lt_of_cell? w _ hx174_0)).trans hx174_0
       replace p174 := eq_true p174
       replace q174 := eq_true q174
       go_wp2_with (first | ((with_reducible refine gate_builtin (b := .append) (xs := #[.tmp 15, .tmp 20]) rfl ?_); at_builtin; refine Kd.R_append (Kd.int .i64) (w0 := w) w.heap.size rfl (.tmp 15) (.tmp 20) 91 3 (.int .i64 0) 8 rfl Tryz.underlying91 info3 rfl (by decide) (by omega) u5 x5_1 (rd l1 x6_1) [.int .i64 (rd l1 x6_1)] (fun _ => True) (fun _ => False) rfl rfl ?aP (fun _ hk => hk.elim) ?aF ?aO ?aB ?aS ?aL ?_; (case aP => exact rfl); (case aB => exact (pb_ HB)); (case aF => exact (fun _ _ => trivial)); (case aO => exact (by (with_reducible repeat (first | apply Kd.R_alloc | apply Kd.R_drewN | apply Kd.R_drew)); exact HO_5.out)); (case aS => exact (below_size (pb_ HB))); (case aL => have := LMc9.out; omega); intro v176 w10 ho hb hg hat; rw [← Ny175.out] at ho; have HO177 := Aside0.mk (ho); replace BK170 := Aside0.mk (blk_grown (g := gb170) (o := .cells #[.bool false, .int .u64 0, .int .u64 0] 26 (0, 0)) (pk_ BK170) hg (Kd.R_ne HO_5.out BK170.out (by decide))); replace HB := Aside0.mk (hb); clear HO_5; clear ho hb hg hat))
       go_roundg k1
       case measure => have := HK1.out; omega
       case rel => exact ⟨(y175), (wrap64 (x6_1 - 1)), (by first | rfl | (simp; done) | (simp [*]; done)), H', ⟨by have := HK1.out; omega⟩, ⟨by (with_reducible repeat (first | apply Kd.R_alloc | apply Kd.R_drewN | apply Kd.R_drew)); exact HO177.out⟩, ⟨by refine pw_ ?_; exact BK170.out⟩, ⟨pb_ HB⟩⟩
      ·
       rw [if_neg c9] at H
       exact absurd H (by simp)
     ·
      rw [if_neg c8] at H
      exact absurd H (by simp)
    ·
     rw [if_neg c7] at H
     exact absurd H (by simp)
   ·
    rw [if_neg c6] at H
    have c6b0 : decide (0 ≤ x6_1) = false := decide_eq_false c6
    clear c6
    replace H := Option.bind_eq_some_iff.mp H
    obtain ⟨⟨t178, t179⟩, A110, H⟩ := H
    replace H : (some (a0, t178, t179)) = some (r1, r2, r3) := H
    have A11 := Aside0.mk A110
    clear A110
    simp only [Option.some.injEq, Prod.mk.injEq] at H
    obtain ⟨rfl, rfl, rfl⟩ := H
    obtain ⟨Ao12, co12, eo12⟩ := Kd.R_slice HO_5.out
    subst eo12
    go_wp2_with (first | ((with_reducible refine gate_callee (f := 107) rfl ?_); refine gl_ (some 24) Tryz.func107 #[.slice Ao12 x5_1.length co12] ?_; (with_reducible refine (platbookref01_Num.calls k1 _ _ x5_1 t178 t179 _ ?side1 ?side2 A11.out).mono ?_); (case side1 => repeat (first | exact (Kd.R_reads' HO_5.out).2.2 | (with_reducible refine Kd.C_alloc ?_ _) | (with_reducible refine Kd.C_drewN ?_ _) | (with_reducible refine Kd.C_drew ?_))); (case side2 => exact (Kd.R_reads' HO_5.out).2.1); rintro e w13 ⟨rfl, hb⟩; refine ⟨_, rfl, ?_⟩; replace HO_5 := Aside0.mk (Kd.R_below (by (with_reducible repeat (first | apply Kd.R_alloc | apply Kd.R_drewN | apply Kd.R_drew)); exact HO_5.out) hb); replace BK170 := bb_ BK170 hb; replace HB := bs_ HB hb; (try clear hb); (try clear hb2); (try clear hk); (try clear hi); obtain ⟨hcz14_0, hcz14_1, hcz14_2, hfz14_0, hfz14_1, hfz14_2⟩ := c3_ BK170))
    refine bodyPost_ret (results_cell_row rfl _ _ gb170 26 #[.bool a0, .int .u64 t178, .int .u64 t179] (0, 0) _ rfl (by refine pw_ ?_; refine blk_put (cs := #[.bool a0, .int .u64 t178, .int .u64 0]) ?_ 2 _ rfl; refine pw_ ?_; refine blk_put (cs := #[.bool a0, .int .u64 0, .int .u64 0]) ?_ 1 _ rfl; refine pw_ ?_; refine blk_put (cs := #[.bool false, .int .u64 0, .int .u64 0]) ?_ 0 _ rfl; refine pw_ ?_; exact BK170.out) Tryz.underlying26 rfl (by kernel_rfl)) rfl ?_
    exact ⟨by first | rfl | (simp [errW_none, errW_some] <;> rfl) | (simp [*, errW_none, errW_some] <;> rfl), pb_ HB⟩

end Go.Proofs.YtgdgklibilddgaaGreatDoor.PPt

