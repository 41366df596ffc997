/- Words of this seat: a number of 128 bits as a natural number, and its value in the model. -/
import Derived.Test.YtgdgklibilddgaaDoorBase
import Derived.Laws.Externs
import Derived.Laws.ResultCell
import Derived.Lib.Hide
import Derived.Test.YtgdgklibilddgaaDoorNumP2
import Derived.Test.YtgdgklibilddgaaDoorShelf
namespace Go.Proofs.YtgdgklibilddgaaDoor
open Go.RowKit

theorem add64_law (x y c : Int) (hx : 0 ≤ x) (hy : 0 ≤ y) (hc0 : 0 ≤ c) (hc : c ≤ 1) (w : World) :
    (callFunc 67 #[.int .u64 x, .int .u64 y, .int .u64 c]).run Tryd.prog w = .ok (.value (.tuple #[.int .u64 (addL x y c), .int .u64 (addC x y c)])) w := by
  rw [run_callFunc_extern Tryd.func67 (by kernel_rfl) (by kernel_rfl) (by kernel_rfl) (e := add64Entry) (by kernel_rfl), run_add64 x y c hx hy hc0 hc]
  rfl

def sub64Entry : Array Value → Sem Value := fun args => do
  let (x, y, b) ← Extern.MathBitsCarry.three "Sub64" args
  pure (Extern.MathBitsCarry.pair ((x + Extern.MathBitsCarry.m64 - y - b) % Extern.MathBitsCarry.m64) (if x < y + b then 1 else 0))

theorem run_sub64 (x y b : Nat) (hb : b ≤ 1) (w : World) :
    (sub64Entry #[.int .u64 x, .int .u64 y, .int .u64 b]).run Tryd.prog w =
      .ok (.tuple #[.int .u64 (((x + 18446744073709551616 - y - b) % 18446744073709551616 : Nat) : Int), .int .u64 ((if x < y + b then 1 else 0 : Nat) : Int)]) w := by
  have : b = 0 ∨ b = 1 := by omega
  rcases this with rfl | rfl <;> rfl

theorem sub64_law (x y b : Int) (hx : 0 ≤ x) (hy : 0 ≤ y) (hy2 : y < 18446744073709551616) (hb0 : 0 ≤ b) (hb : b ≤ 1) (w : World) :
    (callFunc 68 #[.int .u64 x, .int .u64 y, .int .u64 b]).run Tryd.prog w = .ok (.value (.tuple #[.int .u64 (subL x y b), .int .u64 (subB x y b)])) w := by
  obtain ⟨X, rfl⟩ := Int.eq_ofNat_of_zero_le hx
  obtain ⟨Y, rfl⟩ := Int.eq_ofNat_of_zero_le hy
  obtain ⟨B, rfl⟩ := Int.eq_ofNat_of_zero_le hb0
  rw [run_callFunc_extern Tryd.func68 (by kernel_rfl) (by kernel_rfl) (by kernel_rfl) (e := sub64Entry) (by kernel_rfl), run_sub64 X Y B (by omega)]
  have e1 : (((X + 18446744073709551616 - Y - B) % 18446744073709551616 : Nat) : Int) = subL X Y B := by unfold subL; omega
  have e2 : ((if X < Y + B then 1 else 0 : Nat) : Int) = subB X Y B := by
    unfold subB
    by_cases h : X < Y + B
    · rw [if_pos h, if_pos (by omega)]; rfl
    · rw [if_neg h, if_neg (by omega)]; rfl
  rw [e1, e2]
  rfl

theorem add_c (ah al bh bl : Int) (w : World) (h1 : 0 ≤ ah) (h2 : ah < 18446744073709551616) (h3 : 0 ≤ al) (h4 : al < 18446744073709551616)
    (h5 : 0 ≤ bh) (h6 : bh < 18446744073709551616) (h7 : 0 ≤ bl) (h8 : bl < 18446744073709551616) :
    Calls Tryd.prog 48 #[.agg #[.int .u64 ah, .int .u64 al], .agg #[.int .u64 bh, .int .u64 bl]] w fun e w' =>
      e = .returned (.tuple #[numV (addN (num ah al) (num bh bl)), .bool (addF (num ah al) (num bh bl))]) ∧ Below w.heap.size w w' := by
  obtain ⟨q1, q2⟩ := add_words h1 h2 h3 h4 h5 h6 h7 h8
  rw [← q1, ← q2]
  clear q1 q2
  have hA := add64_law
  obtain ⟨hc1, hc2⟩ := addC_bd h3 h4 h7 h8 (Int.le_refl 0) (by omega)
  go_enter Tryd.func48, Tryd.ntmps48
  go_wp2
  refine bodyPost_ret (v := .tuple #[.agg #[.int .u64 (addL ah bh (addC al bl 0)), .int .u64 (addL al bl 0)], .bool (addC ah bh (addC al bl 0) == 0)]) (by simp [results, Tryd.results48, go_sem]) rfl ⟨rfl, ?_⟩
  exact bl_alloc (bl_alloc (bl_alloc (Below.refl _ _) _) _) _

theorem sub_c (ah al bh bl : Int) (w : World) (h1 : 0 ≤ ah) (h2 : ah < 18446744073709551616) (h3 : 0 ≤ al) (h4 : al < 18446744073709551616)
    (h5 : 0 ≤ bh) (h6 : bh < 18446744073709551616) (h7 : 0 ≤ bl) (h8 : bl < 18446744073709551616) :
    Calls Tryd.prog 49 #[.agg #[.int .u64 ah, .int .u64 al], .agg #[.int .u64 bh, .int .u64 bl]] w fun e w' =>
      e = .returned (.tuple #[numV (subN (num ah al) (num bh bl)), .bool (subF (num ah al) (num bh bl))]) ∧ Below w.heap.size w w' := by
  obtain ⟨q1, q2⟩ := sub_words h1 h2 h3 h4 h5 h6 h7 h8
  rw [← q1, ← q2]
  clear q1 q2
  have hA := sub64_law
  obtain ⟨hc1, hc2⟩ := subB_bd al bl 0
  go_enter Tryd.func49, Tryd.ntmps49
  go_wp2
  refine bodyPost_ret (v := .tuple #[.agg #[.int .u64 (subL ah bh (subB al bl 0)), .int .u64 (subL al bl 0)], .bool (subB ah bh (subB al bl 0) == 0)]) (by simp [results, Tryd.results49, go_sem]) rfl ⟨rfl, ?_⟩
  exact bl_alloc (bl_alloc (bl_alloc (Below.refl _ _) _) _) _

theorem not_c (ah al : Int) (w : World) (h1 : 0 ≤ ah) (h2 : ah < 18446744073709551616) (h3 : 0 ≤ al) (h4 : al < 18446744073709551616) :
    Calls Tryd.prog 74 #[.agg #[.int .u64 ah, .int .u64 al]] w fun e w' =>
      e = .returned (numV (notN (num ah al))) ∧ Below w.heap.size w w' := by
  rw [← not_words h1 h2 h3 h4]
  have hs : ¬ IntKind.u64.signed = true := by decide
  go_enter Tryd.func74, Tryd.ntmps74
  go_wp2
  refine bodyPost_ret (v := .agg #[.int .u64 (bits .xor .u64 IntKind.u64.max ah), .int .u64 (bits .xor .u64 IntKind.u64.max al)]) (by simp [results, Tryd.results74, go_sem]) rfl ⟨rfl, ?_⟩
  exact bl_alloc (bl_alloc (Below.refl _ _) _) _

theorem of_c (n : Int) (w : World) (h0 : 0 ≤ n) (h1 : n < 18446744073709551616) :
    Calls Tryd.prog 43 #[.int .u64 n] w fun e w' => e = .returned (numV n.toNat) ∧ Below w.heap.size w w' := by
  have q : numV n.toNat = .agg #[.int .u64 0, .int .u64 n] := (numV_of (by omega) (by omega) h0 h1 (by unfold num; simp)).symm
  rw [q]
  clear q
  go_enter Tryd.func43, Tryd.ntmps43
  go_wp2
  refine bodyPost_ret (v := .agg #[.int .u64 0, .int .u64 n]) (by simp [results, Tryd.results43, go_sem]) rfl ⟨rfl, ?_⟩
  exact bl_alloc (Below.refl _ _) _

theorem shl_pos (ah al k : Int) (w : World) (h1 : 0 ≤ ah) (h2 : ah < 18446744073709551616) (h3 : 0 ≤ al) (h4 : al < 18446744073709551616) (k0 : 0 ≤ k) :
    Calls Tryd.prog 42 #[.agg #[.int .u64 ah, .int .u64 al], .int .i64 k] w fun e w' =>
      e = .returned (numV (shlN (num ah al) k)) ∧ Below w.heap.size w w' := by
  have d3 : decide (k < 0) = false := by simp; omega
  rcases Int.lt_or_le k 64 with hk | hk
  · obtain ⟨K, rfl⟩ := Int.eq_ofNat_of_zero_le k0
    have q := shl_words (h := ah.toNat) (l := al.toNat) (k := K) (by omega) (by omega) (by omega)
    rw [Int.toNat_of_nonneg h1, Int.toNat_of_nonneg h3] at q
    unfold num
    rw [← q]
    clear q
    have d1 : decide (128 ≤ (K : Int)) = false := by simp; omega
    have d2 : decide ((K : Int) ≤ -128) = false := by simp; omega
    have d4 : decide (64 ≤ (K : Int)) = false := by simp; omega
    have e1 : ((64 : Int) - (K : Int)).toNat = 64 - K := by omega
    go_enter Tryd.func42, Tryd.ntmps42
    go_wp2
    go_region
    go_wp2
    refine bodyPost_ret (v := .agg #[.int .u64 (bits .or .u64 (IntKind.u64.wrap (ah * 2 ^ K)) (al / 2 ^ (64 - K))), .int .u64 (IntKind.u64.wrap (al * 2 ^ K))]) (by simp [results, Tryd.results42, go_sem]) rfl ⟨rfl, ?_⟩
    exact bl_drew (bl_alloc (bl_alloc (Below.refl _ _) _) _)
  · rcases Int.lt_or_le k 128 with hk2 | hk2
    · obtain ⟨K, rfl⟩ : ∃ K : Nat, k = (K : Int) + 64 := ⟨(k - 64).toNat, by omega⟩
      have q := shl_words_up (h := ah.toNat) (l := al.toNat) (k := K) (by omega)
      rw [Int.toNat_of_nonneg h3] at q
      unfold num
      rw [← q]
      clear q
      have d1 : decide (128 ≤ (K : Int) + 64) = false := by simp; omega
      have d2 : decide ((K : Int) + 64 ≤ -128) = false := by simp; omega
      have d4 : decide (64 ≤ (K : Int) + 64) = true := by simp; omega
      have e1 : ((K : Int) + 64 - 64) = K := by omega
      go_enter Tryd.func42, Tryd.ntmps42
      go_wp2
      refine bodyPost_ret (v := .agg #[.int .u64 (IntKind.u64.wrap (al * 2 ^ K)), .int .u64 0]) (by simp [results, Tryd.results42, go_sem]) rfl ⟨rfl, ?_⟩
      exact bl_alloc (bl_alloc (Below.refl _ _) _) _
    · rw [← shl_over (a := num ah al) (k := k) (by omega)]
      have d1 : decide (128 ≤ k) = true := by simp; omega
      go_enter Tryd.func42, Tryd.ntmps42
      go_wp2
      refine bodyPost_ret (v := .agg #[.int .u64 0, .int .u64 0]) (by simp [results, Tryd.results42, go_sem]) rfl ⟨rfl, ?_⟩
      exact bl_alloc (bl_alloc (Below.refl _ _) _) _

theorem shr_pos (ah al k : Int) (w : World) (h1 : 0 ≤ ah) (h2 : ah < 18446744073709551616) (h3 : 0 ≤ al) (h4 : al < 18446744073709551616) (k0 : 0 ≤ k) :
    Calls Tryd.prog 45 #[.agg #[.int .u64 ah, .int .u64 al], .int .i64 k] w fun e w' =>
      e = .returned (numV (shrN (num ah al) k)) ∧ Below w.heap.size w w' := by
  have d3 : decide (k < 0) = false := by simp; omega
  rcases Int.lt_or_le k 64 with hk | hk
  · obtain ⟨K, rfl⟩ := Int.eq_ofNat_of_zero_le k0
    have q := shr_words (h := ah.toNat) (l := al.toNat) (k := K) (by omega) (by omega) (by omega)
    rw [Int.toNat_of_nonneg h1, Int.toNat_of_nonneg h3] at q
    unfold num
    rw [← q]
    clear q
    have d1 : decide (128 ≤ (K : Int)) = false := by simp; omega
    have d2 : decide ((K : Int) ≤ -128) = false := by simp; omega
    have d4 : decide (64 ≤ (K : Int)) = false := by simp; omega
    have e1 : ((64 : Int) - (K : Int)).toNat = 64 - K := by omega
    go_enter Tryd.func45, Tryd.ntmps45
    go_wp2
    go_region
    go_wp2
    refine bodyPost_ret (v := .agg #[.int .u64 (ah / 2 ^ K), .int .u64 (bits .or .u64 (al / 2 ^ K) (IntKind.u64.wrap (ah * 2 ^ (64 - K))))]) (by simp [results, Tryd.results45, go_sem]) rfl ⟨rfl, ?_⟩
    exact bl_drew (bl_alloc (bl_alloc (Below.refl _ _) _) _)
  · rcases Int.lt_or_le k 128 with hk2 | hk2
    · obtain ⟨K, rfl⟩ : ∃ K : Nat, k = (K : Int) + 64 := ⟨(k - 64).toNat, by omega⟩
      have q := shr_words_up (h := ah.toNat) (l := al.toNat) (k := K) (by omega) (by omega) (by omega)
      rw [Int.toNat_of_nonneg h1] at q
      unfold num
      rw [← q]
      clear q
      have d1 : decide (128 ≤ (K : Int) + 64) = false := by simp; omega
      have d2 : decide ((K : Int) + 64 ≤ -128) = false := by simp; omega
      have d4 : decide (64 ≤ (K : Int) + 64) = true := by simp; omega
      have e1 : ((K : Int) + 64 - 64) = K := by omega
      go_enter Tryd.func45, Tryd.ntmps45
      go_wp2
      refine bodyPost_ret (v := .agg #[.int .u64 0, .int .u64 (ah / 2 ^ K)]) (by simp [results, Tryd.results45, go_sem]) rfl ⟨rfl, ?_⟩
      exact bl_alloc (bl_alloc (Below.refl _ _) _) _
    · rw [← shr_over (a := num ah al) (k := k) (by omega)]
      have d1 : decide (128 ≤ k) = true := by simp; omega
      go_enter Tryd.func45, Tryd.ntmps45
      go_wp2
      refine bodyPost_ret (v := .agg #[.int .u64 0, .int .u64 0]) (by simp [results, Tryd.results45, go_sem]) rfl ⟨rfl, ?_⟩
      exact bl_alloc (bl_alloc (Below.refl _ _) _) _
end Go.Proofs.YtgdgklibilddgaaDoor
