/- The walks of the escapes of one byte: escaped, meant. -/
import Derived.Test.YtanflcccjjbkgaaDoorMeQ
import Derived.Test.YtanflcccjjbkgaaDoorOwn
import Derived.Test.YtanflcccjjbkgaaDoorShelf
import Derived.Shelf.Small.Strs
namespace Go.Proofs.YtanflcccjjbkgaaDoor
open Go.RowKit

set_option maxRecDepth 100000 in
theorem escaped_c (c : Int) (w : World) :
    Calls Tryd.prog 23 #[.int .u8 c] w fun e w' => e = .returned (.int .u8 (eI c)) ∧ Below w.heap.size w w' := by
  by_cases h1 : c = 92
  · subst h1
    go_enter Tryd.func23, Tryd.ntmps23
    go_wp2_with fail
    go_ret
    exact ⟨rfl, (by repeat (first | (with_reducible exact Below.refl _ _) | (with_reducible assumption) | (with_reducible refine bl_alloc ?_ _) | (with_reducible refine bl_drew ?_) | (with_reducible refine bl_drewN ?_ _) | (with_reducible refine bl_set ?_ (by first | (simp; done) | (simp; omega)) _) | (with_reducible refine bl_trans ?_ ‹_›)))⟩
  have d1 : (c == 92) = false := by simpa using h1
  by_cases h2 : c = 32
  · subst h2
    go_enter Tryd.func23, Tryd.ntmps23
    go_wp2_with fail
    go_ret
    exact ⟨rfl, (by repeat (first | (with_reducible exact Below.refl _ _) | (with_reducible assumption) | (with_reducible refine bl_alloc ?_ _) | (with_reducible refine bl_drew ?_) | (with_reducible refine bl_drewN ?_ _) | (with_reducible refine bl_set ?_ (by first | (simp; done) | (simp; omega)) _) | (with_reducible refine bl_trans ?_ ‹_›)))⟩
  have d2 : (c == 32) = false := by simpa using h2
  by_cases h3 : c = 10
  · subst h3
    go_enter Tryd.func23, Tryd.ntmps23
    go_wp2_with fail
    go_ret
    exact ⟨rfl, (by repeat (first | (with_reducible exact Below.refl _ _) | (with_reducible assumption) | (with_reducible refine bl_alloc ?_ _) | (with_reducible refine bl_drew ?_) | (with_reducible refine bl_drewN ?_ _) | (with_reducible refine bl_set ?_ (by first | (simp; done) | (simp; omega)) _) | (with_reducible refine bl_trans ?_ ‹_›)))⟩
  have d3 : (c == 10) = false := by simpa using h3
  by_cases h4 : c = 44
  · subst h4
    go_enter Tryd.func23, Tryd.ntmps23
    go_wp2_with fail
    go_ret
    exact ⟨rfl, (by repeat (first | (with_reducible exact Below.refl _ _) | (with_reducible assumption) | (with_reducible refine bl_alloc ?_ _) | (with_reducible refine bl_drew ?_) | (with_reducible refine bl_drewN ?_ _) | (with_reducible refine bl_set ?_ (by first | (simp; done) | (simp; omega)) _) | (with_reducible refine bl_trans ?_ ‹_›)))⟩
  have d4 : (c == 44) = false := by simpa using h4
  by_cases h5 : c = 61
  · subst h5
    go_enter Tryd.func23, Tryd.ntmps23
    go_wp2_with fail
    go_ret
    exact ⟨rfl, (by repeat (first | (with_reducible exact Below.refl _ _) | (with_reducible assumption) | (with_reducible refine bl_alloc ?_ _) | (with_reducible refine bl_drew ?_) | (with_reducible refine bl_drewN ?_ _) | (with_reducible refine bl_set ?_ (by first | (simp; done) | (simp; omega)) _) | (with_reducible refine bl_trans ?_ ‹_›)))⟩
  have d5 : (c == 61) = false := by simpa using h5
  have e0 : eI c = 0 := by unfold eI; rw [if_neg h1, if_neg h2, if_neg h3, if_neg h4, if_neg h5]
  rw [e0]
  clear h1 h2 h3 h4 h5 e0
  go_enter Tryd.func23, Tryd.ntmps23
  go_wp2_with fail
  go_ret
  exact ⟨rfl, (by repeat (first | (with_reducible exact Below.refl _ _) | (with_reducible assumption) | (with_reducible refine bl_alloc ?_ _) | (with_reducible refine bl_drew ?_) | (with_reducible refine bl_drewN ?_ _) | (with_reducible refine bl_set ?_ (by first | (simp; done) | (simp; omega)) _) | (with_reducible refine bl_trans ?_ ‹_›)))⟩

theorem idx_none {x : Int} (h0 : 0 ≤ x) (h1 : x < 256) (h : mI x = none) : Lib.indexByte [92, 115, 110, 99, 101] x.toNat.toUInt8 = -1 := by
  have hx : (x.toNat.toUInt8).toNat = x.toNat := by simp; omega
  have hn : ∀ b : UInt8, (b.toNat : Int) ≠ x → (b == x.toNat.toUInt8) = false := fun b hb => by
    simp only [beq_eq_false_iff_ne, ne_eq]
    rintro rfl
    exact hb (by rw [hx]; omega)
  unfold mI at h
  by_cases a1 : x = 92
  · rw [if_pos a1] at h; cases h
  by_cases a2 : x = 115
  · rw [if_neg a1, if_pos a2] at h; cases h
  by_cases a3 : x = 110
  · rw [if_neg a1, if_neg a2, if_pos a3] at h; cases h
  by_cases a4 : x = 99
  · rw [if_neg a1, if_neg a2, if_neg a3, if_pos a4] at h; cases h
  by_cases a5 : x = 101
  · rw [if_neg a1, if_neg a2, if_neg a3, if_neg a4, if_pos a5] at h; cases h
  simp [Lib.indexByte, hn 92 (fun e => a1 e.symm), hn 115 (fun e => a2 e.symm), hn 110 (fun e => a3 e.symm), hn 99 (fun e => a4 e.symm), hn 101 (fun e => a5 e.symm)]
set_option maxRecDepth 100000 in
theorem meant_c (x : Int) (h0 : 0 ≤ x) (h1 : x < 256) (w : World) :
    Calls Tryd.prog 26 #[.int .u8 x] w fun e w' => e = .returned (.tuple #[.int .u8 ((mI x).getD 0), .bool (mI x).isSome]) ∧ Below w.heap.size w w' := by
  have key : ∀ (x : Int) (i : Int) (d : Int), mI x = some d → Lib.indexByte [92, 115, 110, 99, 101] x.toNat.toUInt8 = i → ∀ w, Calls Tryd.prog 55 #[.string ⟨#[92, 115, 110, 99, 101]⟩, .int .u8 x] w fun e w' => e = .returned (.int .i64 i) ∧ w' = w := by
    intro x i d _ hi w
    refine (Tryd.strings_IndexByte ⟨#[92, 115, 110, 99, 101]⟩ x w).mono ?_
    rintro e w' ⟨rfl, rfl⟩
    exact ⟨by rw [← hi], rfl⟩
  cases h : mI x with
  | none =>
    have hi := idx_none h0 h1 h
    have key2 : ∀ w, Calls Tryd.prog 55 #[.string ⟨#[92, 115, 110, 99, 101]⟩, .int .u8 x] w fun e w' => e = .returned (.int .i64 (-1)) ∧ w' = w := by
      intro w
      refine (Tryd.strings_IndexByte ⟨#[92, 115, 110, 99, 101]⟩ x w).mono ?_
      rintro e w' ⟨rfl, rfl⟩
      exact ⟨by rw [← hi], rfl⟩
    clear hi
    have K := Lib.hid key2
    clear key key2
    go_enter Tryd.func26, Tryd.ntmps26
    go_wp2_with fail
    refine (K.out _).mono ?_
    rintro e w1 ⟨rfl, rfl⟩
    go_wp2_with fail
    go_ret2
    exact ⟨rfl, (by repeat (first | (with_reducible exact Below.refl _ _) | (with_reducible assumption) | (with_reducible refine bl_alloc ?_ _) | (with_reducible refine bl_drew ?_) | (with_reducible refine bl_drewN ?_ _) | (with_reducible refine bl_set ?_ (by first | (simp; done) | (simp; omega)) _) | (with_reducible refine bl_trans ?_ ‹_›)))⟩
  | some d =>
    have hc : (x = 92 ∧ d = 92) ∨ (x = 115 ∧ d = 32) ∨ (x = 110 ∧ d = 10) ∨ (x = 99 ∧ d = 44) ∨ (x = 101 ∧ d = 61) := by
      unfold mI at h
      split at h
      · cases h; exact .inl ⟨by assumption, rfl⟩
      split at h
      · cases h; exact .inr (.inl ⟨by assumption, rfl⟩)
      split at h
      · cases h; exact .inr (.inr (.inl ⟨by assumption, rfl⟩))
      split at h
      · cases h; exact .inr (.inr (.inr (.inl ⟨by assumption, rfl⟩)))
      split at h
      · cases h; exact .inr (.inr (.inr (.inr ⟨by assumption, rfl⟩)))
      · cases h
    rcases hc with ⟨rfl, rfl⟩ | ⟨rfl, rfl⟩ | ⟨rfl, rfl⟩ | ⟨rfl, rfl⟩ | ⟨rfl, rfl⟩
    · have K := Lib.hid (key 92 0 _ rfl (by decide))
      clear key h h0 h1
      go_enter Tryd.func26, Tryd.ntmps26
      go_wp2_with fail
      refine (K.out _).mono ?_
      rintro e w1 ⟨rfl, rfl⟩
      go_wp2_with fail
      go_ret2
      exact ⟨rfl, (by repeat (first | (with_reducible exact Below.refl _ _) | (with_reducible assumption) | (with_reducible refine bl_alloc ?_ _) | (with_reducible refine bl_drew ?_) | (with_reducible refine bl_drewN ?_ _) | (with_reducible refine bl_set ?_ (by first | (simp; done) | (simp; omega)) _) | (with_reducible refine bl_trans ?_ ‹_›)))⟩
    · have K := Lib.hid (key 115 1 _ rfl (by decide))
      clear key h h0 h1
      go_enter Tryd.func26, Tryd.ntmps26
      go_wp2_with fail
      refine (K.out _).mono ?_
      rintro e w1 ⟨rfl, rfl⟩
      go_wp2_with fail
      go_ret2
      exact ⟨rfl, (by repeat (first | (with_reducible exact Below.refl _ _) | (with_reducible assumption) | (with_reducible refine bl_alloc ?_ _) | (with_reducible refine bl_drew ?_) | (with_reducible refine bl_drewN ?_ _) | (with_reducible refine bl_set ?_ (by first | (simp; done) | (simp; omega)) _) | (with_reducible refine bl_trans ?_ ‹_›)))⟩
    · have K := Lib.hid (key 110 2 _ rfl (by decide))
      clear key h h0 h1
      go_enter Tryd.func26, Tryd.ntmps26
      go_wp2_with fail
      refine (K.out _).mono ?_
      rintro e w1 ⟨rfl, rfl⟩
      go_wp2_with fail
      go_ret2
      exact ⟨rfl, (by repeat (first | (with_reducible exact Below.refl _ _) | (with_reducible assumption) | (with_reducible refine bl_alloc ?_ _) | (with_reducible refine bl_drew ?_) | (with_reducible refine bl_drewN ?_ _) | (with_reducible refine bl_set ?_ (by first | (simp; done) | (simp; omega)) _) | (with_reducible refine bl_trans ?_ ‹_›)))⟩
    · have K := Lib.hid (key 99 3 _ rfl (by decide))
      clear key h h0 h1
      go_enter Tryd.func26, Tryd.ntmps26
      go_wp2_with fail
      refine (K.out _).mono ?_
      rintro e w1 ⟨rfl, rfl⟩
      go_wp2_with fail
      go_ret2
      exact ⟨rfl, (by repeat (first | (with_reducible exact Below.refl _ _) | (with_reducible assumption) | (with_reducible refine bl_alloc ?_ _) | (with_reducible refine bl_drew ?_) | (with_reducible refine bl_drewN ?_ _) | (with_reducible refine bl_set ?_ (by first | (simp; done) | (simp; omega)) _) | (with_reducible refine bl_trans ?_ ‹_›)))⟩
    · have K := Lib.hid (key 101 4 _ rfl (by decide))
      clear key h h0 h1
      go_enter Tryd.func26, Tryd.ntmps26
      go_wp2_with fail
      refine (K.out _).mono ?_
      rintro e w1 ⟨rfl, rfl⟩
      go_wp2_with fail
      go_ret2
      exact ⟨rfl, (by repeat (first | (with_reducible exact Below.refl _ _) | (with_reducible assumption) | (with_reducible refine bl_alloc ?_ _) | (with_reducible refine bl_drew ?_) | (with_reducible refine bl_drewN ?_ _) | (with_reducible refine bl_set ?_ (by first | (simp; done) | (simp; omega)) _) | (with_reducible refine bl_trans ?_ ‹_›)))⟩
end Go.Proofs.YtanflcccjjbkgaaDoor
