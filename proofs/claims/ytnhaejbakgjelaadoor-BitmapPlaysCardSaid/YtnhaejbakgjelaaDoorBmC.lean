/- The walks of the bitmaps' Count, Fill, Clear. -/
import Derived.Test.YtnhaejbakgjelaaDoorBmB
import Derived.Deep.RegionWith
import Derived.StillTailTactics
namespace Go.Proofs.YtnhaejbakgjelaaDoor
open Go.RowKit

theorem count_nil (w : World) :
    Calls Tryd.prog 12 #[.pointer none] w fun e w' => e = .returned (.int .i64 0) ∧ w = w' := by
  go_enter Tryd.func12, Tryd.ntmps12
  go_wp2
  go_ret
  exact ⟨rfl, rfl⟩
theorem count_words (g c n : Nat) (f : Nat → Bool) (w : World) (h : MapAt w g c n f) :
    Calls Tryd.prog 12 #[.pointer (some ⟨g, 0, none⟩)] w fun e w' => e = .returned (.int .i64 (cnt f 0 (64 * ((n + 63) / 64)))) ∧ w = w' := by
  have h1 := h.words
  have hs := h.small
  have hw : ∀ k, k < (n + 63) / 64 → w.cell? ⟨c, k, none⟩ = some (.int .u64 (W f k : Nat)) := fun k hk => h.word hk
  have HW := Lib.hid hw
  clear hw
  generalize hK : (n + 63) / 64 = K at *
  have hK2 : K ≤ 1024 := by omega
  clear hK
  go_enter Tryd.func12, Tryd.ntmps12
  go_wp2_with fail
  go_loop [3, 13] (fun s i => ∃ k : Nat, k ≤ K ∧ i = .int .i64 k ∧ s = .int .i64 (cnt f 0 (64 * k) : Nat)) (fun _ i => K - (intOf i).toNat)
  case atStart => exact ⟨0, by omega, rfl, rfl⟩
  case round =>
    obtain ⟨k, hk, rfl, rfl⟩ := hrel
    by_cases hlt : k < K
    · have hc := HW.out k hlt
      have hb := cnt_le f 0 (64 * k)
      have hb2 := cnt_le f (64 * k) 64
      have hj : cnt f 0 (64 * (k + 1)) = cnt f 0 (64 * k) + cnt f (64 * k) 64 := by
        rw [show 64 * (k + 1) = 64 * k + 64 from by omega, cnt_join, Nat.zero_add]
      have HJ := Lib.hid hj
      clear hj
      have dk : decide (k < K) = true := decide_eq_true hlt
      go_wp2_with fail
      refine (ones_c f k _).mono ?_
      rintro e w' ⟨rfl, rfl⟩
      go_wp2_with fail
      go_round
      case rel => exact ⟨k + 1, by omega, by go_num, by rw [HJ.out]; go_num⟩
      case measure => simp [intOf]; omega
    · have dk : decide (k < K) = false := decide_eq_false hlt
      obtain rfl : k = K := by omega
      go_wp2_with fail
      go_ret
      exact ⟨rfl, rfl⟩

theorem Blk.ne {w : World} {a b : Nat} {t u : TypeId} {x y : Array Value} (h : Blk w a t x) (k : Blk w b u y) (e : t ≠ u) : a ≠ b := by
  rintro rfl
  unfold Blk at h k
  rw [h] at k
  injection k with k
  injection k with _ k
  exact e k
theorem one_is {f : FuncId} {args : Array Value} {w : World} {v : Value} (h : Calls Tryd.prog f args w fun e w' => e = .returned v ∧ w = w') : Calls Tryd.prog f args w fun e w' => e = .returned v ∧ w' = w := h.mono fun _ _ ⟨a, b⟩ => ⟨a, b.symm⟩

/-- what a filling (b true) or clearing has made of f below word k -/
def sofar (b : Bool) (f q : Nat → Bool) (k : Nat) : Nat → Bool := fun i => if q i = true ∧ i < 64 * k then b else f i
theorem sofar_word (b : Bool) (f q : Nat → Bool) (k : Nat) : W (sofar b f q k) k = W f k :=
  W_congr fun j _ => by unfold sofar; rw [if_neg (by omega)]
theorem sofar_or (f q : Nat → Bool) (k : Nat) : W (fun i => f i || q i) k = W (sofar true f q (k + 1)) k :=
  W_congr fun j hj => by
    unfold sofar
    have : 64 * k + j < 64 * (k + 1) := by omega
    cases h : q (64 * k + j) <;> simp [this]
theorem sofar_andNot (f q : Nat → Bool) (k : Nat) : W (fun i => f i && !q i) k = W (sofar false f q (k + 1)) k :=
  W_congr fun j hj => by
    unfold sofar
    have : 64 * k + j < 64 * (k + 1) := by omega
    cases h : q (64 * k + j) <;> simp [this]
theorem sofar_other (b : Bool) (f q : Nat → Bool) {k k' : Nat} (h : k' ≠ k) : W (sofar b f q k) k' = W (sofar b f q (k + 1)) k' :=
  W_congr fun j hj => by
    unfold sofar
    by_cases e : 64 * k' + j < 64 * k
    · simp only [show 64 * k' + j < 64 * (k + 1) from by omega, e]
    · simp only [show ¬ 64 * k' + j < 64 * (k + 1) from by omega, e]
/-- blocks a and c alone may have turned -/
structure Fr2 (a c : Nat) (w w' : World) : Prop where
  os : w'.os = w.os
  tape : w'.tape = w.tape
  output : w'.output = w.output
  size : w.heap.size ≤ w'.heap.size
  block : ∀ k, k < w.heap.size → k ≠ a → k ≠ c → w'.heap[k]? = w.heap[k]?
theorem Fr2.refl (a c : Nat) (w : World) : Fr2 a c w w := ⟨rfl, rfl, rfl, Nat.le_refl _, fun _ _ _ _ => rfl⟩
theorem Fr2.trans {a c : Nat} {u v w : World} (h : Fr2 a c u v) (k : Fr2 a c v w) : Fr2 a c u w :=
  ⟨k.os.trans h.os, k.tape.trans h.tape, k.output.trans h.output, Nat.le_trans h.size k.size, fun i hi h1 h2 => (k.block i (Nat.lt_of_lt_of_le hi h.size) h1 h2).trans (h.block i hi h1 h2)⟩
theorem Fr2.drew {a c : Nat} {u v : World} (h : Fr2 a c u v) : Fr2 a c u v.drew := ⟨h.os, h.tape, h.output, h.size, h.block⟩
theorem Fr2.set {a c : Nat} {u v : World} (h : Fr2 a c u v) {p : Addr} (hp : p.block = a ∨ p.block = c) (x : Value) : Fr2 a c u (v.setCell p x) :=
  h.trans ⟨rfl, rfl, rfl, by simp [World.setCell], fun i _ h1 h2 => Below.heap_setCell _ _ _ _ (by rcases hp with e | e <;> omega)⟩
theorem Fr2.grown {a c : Nat} {u v w : World} (h : Fr2 a c v w) (hb : Below u.heap.size u v) (ha : u.heap.size ≤ a) : u.grownBy w (some c) :=
  ⟨h.os.trans hb.os, h.tape.trans hb.tape, h.output.trans hb.output, Nat.le_trans hb.size h.size, fun i hi hr => (h.block i (Nat.lt_of_lt_of_le hi hb.size) (by omega) (fun e => hr (by rw [e]))).trans (hb.block i hi)⟩

/-- the closure's variables and the map, when the words below k are done -/
structure Going (b : Bool) (f q h : Nat → Bool) (a bb g c n : Nat) (w0 : World) (k : Nat) (w : World) : Prop where
  box : Blk w a 3 #[.int .i64 (cnt h 0 (64 * k) : Nat)]
  ptr : Blk w bb 23 #[.pointer (some ⟨g, 0, none⟩)]
  map : MapAt w g c n (sofar b f q k)
  frame : Fr2 a c w0 w
theorem Going.drew {b : Bool} {f q h : Nat → Bool} {a bb g c n k : Nat} {w0 w : World} (x : Going b f q h a bb g c n w0 k w) : Going b f q h a bb g c n w0 k w.drew := ⟨x.box.drew, x.ptr.drew, x.map.drew, x.frame.drew⟩
theorem Going.next {b : Bool} {f q h : Nat → Bool} {a bb g c n k : Nat} {w0 w : World} (x : Going b f q h a bb g c n w0 k w) (hk : k < (n + 63) / 64) (hq : ∀ i, n ≤ i → q i = false) :
    Going b f q h a bb g c n w0 (k + 1) ((w.setCell ⟨a, 0, none⟩ (.int .i64 ((cnt h 0 (64 * k) : Nat) + (cnt h (64 * k) 64 : Nat)))).setCell ⟨c, k, none⟩ (.int .u64 (W (sofar b f q (k + 1)) k : Nat))) := by
  have n1 := x.box.ne x.ptr (by decide)
  have n2 := x.box.ne x.map.head (by decide)
  have n3 := x.box.ne x.map.row (by decide)
  have n4 := x.ptr.ne x.map.row (by decide)
  have n5 := x.map.ne
  refine ⟨?_, (x.ptr.far n1.symm _).far n4 _, ⟨(x.map.head.far n2.symm _).far n5 _, ?_, n5, x.map.small, fun i hi => ?_⟩, (x.frame.set (Or.inl rfl) _).set (Or.inr rfl) _⟩
  · have e : cnt h 0 (64 * (k + 1)) = cnt h 0 (64 * k) + cnt h (64 * k) 64 := by
      rw [show 64 * (k + 1) = 64 * k + 64 from by omega, cnt_join, Nat.zero_add]
    rw [e, Int.natCast_add]
    exact (x.box.put 0 _).far n3 _
  · rw [← wordsV_put (f := sofar b f q k) (k := k) (fun k' hk' _ => sofar_other b f q hk') hk]
    exact (x.map.row.far n3.symm _).put k _
  · unfold sofar; rw [hq i hi, if_neg (by simp)]
    have := x.map.top i hi
    unfold sofar at this
    rw [hq i hi, if_neg (by simp)] at this
    exact this

set_option maxRecDepth 20000 in
theorem fill1_c (a b g c n k : Nat) (f q : Nat → Bool) (w0 w : World) (hx : Going true f q (fun i => q i && !f i) a b g c n w0 k w) (hk : k < (n + 63) / 64) (hq : ∀ i, n ≤ i → q i = false) :
    Calls Tryd.prog 36 #[.int .i64 k, .int .u64 (W q k : Nat), .pointer (some ⟨a, 0, none⟩), .pointer (some ⟨b, 0, none⟩)] w fun e w' => e = .returned (.tuple #[]) ∧ Going true f q (fun i => q i && !f i) a b g c n w0 (k + 1) w' := by
  have hfin := hx.drew.next hk hq
  have k0 := (hx.box.cell 0).trans rfl
  have k1 := (hx.ptr.cell 0).trans rfl
  simp only [List.getElem?_toArray, List.getElem?_cons_zero] at k0 k1
  have k2 := hx.map.words
  have k3 := hx.map.word hk
  rw [sofar_word] at k3
  have hh := i_andNot q f k
  have hh2 := i_or f q k
  rw [sofar_or] at hh2
  have hsm := hx.map.small
  have n1 := hx.box.ne hx.ptr (by decide)
  have n2 := hx.box.ne hx.map.head (by decide)
  have n3 := hx.box.ne hx.map.row (by decide)
  have hb1 := cnt_le (fun i => q i && !f i) 0 (64 * k)
  have hb2 := cnt_le (fun i => q i && !f i) (64 * k) 64
  have dk : (k : Int) < ((n : Int) + 63) / 64 := by omega
  have z0 := hx.drew.box.frozen 0
  have z1 := hx.drew.map.free k
  have HF := Lib.hid hfin
  clear hfin hx hq
  generalize cnt (fun i => q i && !f i) 0 (64 * k) = s at *
  go_enter Tryd.func36, Tryd.ntmps36
  go_wp2_with fail
  refine wp_region_still_tail 12 (by kernel_rfl) (by kernel_rfl) ?_
  simp only [List.take_succ_cons, List.take_zero, List.drop_succ_cons, List.drop_zero]
  iterate 10 still_step
  still_call (one_is (ones_c _ _ _))
  still_step
  refine wpStill_nil ?_
  change wpList _ _ _ _ _ w.drew
  have q0 : w.drew.cell? ⟨a, 0, none⟩ = some (Value.int .i64 s) := k0
  have q1 : w.drew.cell? ⟨b, 0, none⟩ = some (Value.pointer (some ⟨g, 0, none⟩)) := k1
  have q2 : w.drew.cell? ⟨g, 1, none⟩ = some (.slice (some ⟨c, 0, none⟩) ((n + 63) / 64) ((n + 63) / 64)) := k2
  have q3 : w.drew.cell? ⟨c, k, none⟩ = some (.int .u64 (W f k : Nat)) := k3
  clear k0 k1 k2 k3
  generalize w.drew = w2 at *
  go_wp2_with fail
  go_end0
  exact ⟨rfl, HF.out⟩

set_option maxRecDepth 20000 in
theorem clear1_c (a b g c n k : Nat) (f q : Nat → Bool) (w0 w : World) (hx : Going false f q (fun i => q i && f i) a b g c n w0 k w) (hk : k < (n + 63) / 64) (hq : ∀ i, n ≤ i → q i = false) :
    Calls Tryd.prog 41 #[.int .i64 k, .int .u64 (W q k : Nat), .pointer (some ⟨a, 0, none⟩), .pointer (some ⟨b, 0, none⟩)] w fun e w' => e = .returned (.tuple #[]) ∧ Going false f q (fun i => q i && f i) a b g c n w0 (k + 1) w' := by
  have hfin := hx.drew.next hk hq
  have k0 := (hx.box.cell 0).trans rfl
  have k1 := (hx.ptr.cell 0).trans rfl
  simp only [List.getElem?_toArray, List.getElem?_cons_zero] at k0 k1
  have k2 := hx.map.words
  have k3 := hx.map.word hk
  rw [sofar_word] at k3
  have hh := i_and q f k
  have hh2 := i_andNot f q k
  rw [sofar_andNot] at hh2
  have hsm := hx.map.small
  have n1 := hx.box.ne hx.ptr (by decide)
  have n2 := hx.box.ne hx.map.head (by decide)
  have n3 := hx.box.ne hx.map.row (by decide)
  have hb1 := cnt_le (fun i => q i && f i) 0 (64 * k)
  have hb2 := cnt_le (fun i => q i && f i) (64 * k) 64
  have dk : (k : Int) < ((n : Int) + 63) / 64 := by omega
  have z0 := hx.drew.box.frozen 0
  have z1 := hx.drew.map.free k
  have HF := Lib.hid hfin
  clear hfin hx hq
  generalize cnt (fun i => q i && f i) 0 (64 * k) = s at *
  go_enter Tryd.func41, Tryd.ntmps41
  go_wp2_with fail
  refine wp_region_still_tail 12 (by kernel_rfl) (by kernel_rfl) ?_
  simp only [List.take_succ_cons, List.take_zero, List.drop_succ_cons, List.drop_zero]
  iterate 10 still_step
  still_call (one_is (ones_c _ _ _))
  still_step
  refine wpStill_nil ?_
  change wpList _ _ _ _ _ w.drew
  have q0 : w.drew.cell? ⟨a, 0, none⟩ = some (Value.int .i64 s) := k0
  have q1 : w.drew.cell? ⟨b, 0, none⟩ = some (Value.pointer (some ⟨g, 0, none⟩)) := k1
  have q2 : w.drew.cell? ⟨g, 1, none⟩ = some (.slice (some ⟨c, 0, none⟩) ((n + 63) / 64) ((n + 63) / 64)) := k2
  have q3 : w.drew.cell? ⟨c, k, none⟩ = some (.int .u64 (W f k : Nat)) := k3
  clear k0 k1 k2 k3
  generalize w.drew = w2 at *
  go_wp2_with fail
  go_end0
  exact ⟨rfl, HF.out⟩
end Go.Proofs.YtnhaejbakgjelaaDoor
