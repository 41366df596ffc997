/- The lines of layer 30: the parts of a line. -/
import Derived.Test.YtanflcccjjbkgaaDoorMeC
import Derived.Test.YtanflcccjjbkgaaDoorObH
import Derived.Deep.RegionLaw
import Derived.Deep.AppendLies
namespace Go.Proofs.YtanflcccjjbkgaaDoor
open Go.RowKit

theorem info_str : (Tryd.prog.info? 9).map (fun i => (i.zero, i.size, i.bytes)) = some (some (.string ByteArray.empty), 1, 16) := by kernel_rfl
def strsV (l : List ByteArray) : List Value := l.map Value.string
/-- a line that is laid: its parts -/
def LineAt (base px : Nat) (parts : List ByteArray) (w : World) : Prop :=
  base ≤ px ∧ ∃ v, Blk w px 80 #[v] ∧ w.ownsRow base 9 1 v parts.length (strsV parts)
theorem LineAt.after {base px : Nat} {parts : List ByteArray} {w w' : World} (h : LineAt base px parts w) (hb : Below w.heap.size w w') : LineAt base px parts w' := by
  obtain ⟨h1, v, h2, h3⟩ := h
  exact ⟨h1, v, h2.after hb, own_after h3 hb⟩
def fieldT (name text : ByteArray) : ByteArray := name ++ ⟨#[61]⟩ ++ text
def fieldP (name : ByteArray) (some : Bool) (text : ByteArray) : List ByteArray := if some then [fieldT name text] else []
theorem own_far {w : World} {base n : Nat} {e : TypeId} {v : Value} {xs : List Value} (h : w.ownsRow base e 1 v n xs) {p : Addr} (hp : some p.block ≠ v.ownBlock) (u : Value) : (w.setCell p u).ownsRow base e 1 v n xs := by
  obtain ⟨h1, h2⟩ := h
  refine ⟨h1, h2.imp id ?_⟩
  rintro ⟨g, cap, cur, rfl, hb, hh, h3⟩
  refine ⟨g, cap, cur, rfl, hb, ?_, h3⟩
  rw [Below.heap_setCell w p u g (fun e => hp (by simp [Value.ownBlock, e]))]
  exact hh
theorem own_slice {w : World} {base n : Nat} {e : TypeId} {v : Value} {xs : List Value} (h : w.ownsRow base e 1 v n xs) : ∃ a c, v = .slice a n c := by
  rcases h.2 with ⟨rfl, h0⟩ | ⟨g, cap, cur, hv, _⟩
  · subst h0; exact ⟨_, _, rfl⟩
  · exact ⟨_, _, hv⟩
theorem one_str (s : ByteArray) : ∀ u ∈ [Value.string s], u.oneCell' = true := by intro u hu; simp at hu; subst hu; rfl
set_option maxRecDepth 100000 in
theorem put_yes (base px : Nat) (parts : List ByteArray) (name text : ByteArray) (w : World) (h : LineAt base px parts w) (hn : parts.length ≤ 100000) (hbw : base ≤ w.heap.size) (hs1 : name.size ≤ 1000000) (hs2 : text.size ≤ 1000000000) :
    Calls Tryd.prog 47 #[.pointer (some ⟨px, 0, none⟩), .string name, .bool true, .string text] w fun e w' => e = .returned (.tuple #[]) ∧ LineAt base px (parts ++ [fieldT name text]) w' ∧ Below base w w' := by
  obtain ⟨hpx, v, hB, hown⟩ := h
  obtain ⟨i0, hi0, hz0, hz1, hz2⟩ := info_parts info_str
  obtain ⟨ga, gc, rfl⟩ := own_slice hown
  have c0 : w.cell? ⟨px, 0, none⟩ = some (.slice ga parts.length gc) := hB.cell 0
  have z0 := hB.frozen 0
  have hlt := hB.lt
  have HT : Hid (strsV (parts ++ [fieldT name text]) = strsV parts ++ [.string (name ++ ⟨#[61]⟩ ++ text)]) := Lib.hid (by simp [strsV, fieldT])
  have HLL : Hid ((parts ++ [fieldT name text]).length = parts.length + 1) := Lib.hid (by simp)
  go_enter Tryd.func47, Tryd.ntmps47
  go_wp2_with (at_builtin; refine wpList_append_own _ rfl _ _ 42 rfl base 9 i0 (.string ByteArray.empty) 1 16 Tryd.underlying42 hi0 hz0 hz1 hz2 rfl (by decide) _ _ _ rfl (hown.alloc _) ⟨w.heap.size, 0, none⟩ 1 1 [.string (name ++ ⟨#[61]⟩ ++ text)] rfl rfl ?q1 ?q2 ?q3 ?q4 ?q5 ?_)
  case q1 => exact cell_list _ _ _
  case q2 => exact one_str _
  case q3 => simp only [maxLen]; omega
  case q4 => omega
  case q5 => simp; omega
  intro v' w1 hown' hgrow _
  have hB1 : Blk w1 px 80 #[.slice ga parts.length gc] := (hB.alloc _).grown hgrow (hB.ne_own hown (by decide))
  have hbel1 : Below base w w1 := ((Below.refl base w).alloc hbw _).grown hgrow (by simp; omega) fun k hk => (hown.lt k hk).1
  have hne := hB1.ne_own hown' (by decide)
  obtain ⟨ga', gc', rfl⟩ := own_slice hown'
  have c1 : w1.cell? ⟨px, 0, none⟩ = some (.slice ga parts.length gc) := hB1.cell 0
  have z1 := hB1.frozen 0
  clear c0 z0 hown hgrow hi0 hz0 hz1 hz2 hB
  go_wp2_with fail
  go_end0
  exact ⟨rfl, ⟨hpx, _, hB1.put 0 _, by rw [HT.out, HLL.out]; exact own_far hown' hne _⟩, hbel1.setCell hpx _⟩
set_option maxRecDepth 100000 in
theorem put_no (px : Nat) (name text : ByteArray) (w : World) :
    Calls Tryd.prog 47 #[.pointer (some ⟨px, 0, none⟩), .string name, .bool false, .string text] w fun e w' => e = .returned (.tuple #[]) ∧ w' = w := by
  go_enter Tryd.func47, Tryd.ntmps47
  go_wp2_with fail
  go_end0
  exact ⟨rfl, rfl⟩
theorem put_c (base px : Nat) (parts : List ByteArray) (name : ByteArray) (b : Bool) (text : ByteArray) (w : World) (h : LineAt base px parts w) (hn : parts.length ≤ 100000) (hbw : base ≤ w.heap.size) (hs1 : name.size ≤ 1000000) (hs2 : text.size ≤ 1000000000) :
    Calls Tryd.prog 47 #[.pointer (some ⟨px, 0, none⟩), .string name, .bool b, .string text] w fun e w' => e = .returned (.tuple #[]) ∧ LineAt base px (parts ++ fieldP name b text) w' ∧ Below base w w' := by
  cases b
  · refine (put_no px name text w).mono ?_
    rintro e w' ⟨rfl, rfl⟩
    exact ⟨rfl, by simpa [fieldP] using h, Below.refl _ _⟩
  · exact put_yes base px parts name text w h hn hbw hs1 hs2
set_option maxRecDepth 100000 in
theorem listS_nil (f : Value) (w : World) :
    Calls Tryd.prog 81 #[.slice none 0 0, f] w fun e w' => e = .returned (.string ⟨#[]⟩) ∧ Below w.heap.size w w' := by
  go_enter Tryd.func81, Tryd.ntmps81
  go_wp2_with fail
  refine wp_loop_rounds 1 ?_
  rw [rounds_succ]
  go_wp2_with fail
  refine (Tryd.strings_Join_none none 0 _ _).mono ?_
  rintro e w1 ⟨rfl, rfl⟩
  go_wp2_with fail
  go_ret
  exact ⟨rfl, (by repeat (first | (with_reducible exact Below.refl _ _) | (with_reducible assumption) | (with_reducible refine bl_alloc ?_ _) | (with_reducible refine bl_drew ?_) | (with_reducible refine bl_drewN ?_ _) | (with_reducible refine bl_set ?_ (by first | (simp; done) | (simp; omega)) _) | (with_reducible refine bl_trans ?_ ‹_›)))⟩
set_option maxRecDepth 100000 in
theorem listI_nil (f : Value) (w : World) :
    Calls Tryd.prog 51 #[.slice none 0 0, f] w fun e w' => e = .returned (.string ⟨#[]⟩) ∧ Below w.heap.size w w' := by
  go_enter Tryd.func51, Tryd.ntmps51
  go_wp2_with fail
  refine wp_loop_rounds 1 ?_
  rw [rounds_succ]
  go_wp2_with fail
  refine (Tryd.strings_Join_none none 0 _ _).mono ?_
  rintro e w1 ⟨rfl, rfl⟩
  go_wp2_with fail
  go_ret
  exact ⟨rfl, (by repeat (first | (with_reducible exact Below.refl _ _) | (with_reducible assumption) | (with_reducible refine bl_alloc ?_ _) | (with_reducible refine bl_drew ?_) | (with_reducible refine bl_drewN ?_ _) | (with_reducible refine bl_set ?_ (by first | (simp; done) | (simp; omega)) _) | (with_reducible refine bl_trans ?_ ‹_›)))⟩
set_option maxRecDepth 100000 in
theorem listP_nil (f : Value) (w : World) :
    Calls Tryd.prog 48 #[.slice none 0 0, f] w fun e w' => e = .returned (.string ⟨#[]⟩) ∧ Below w.heap.size w w' := by
  go_enter Tryd.func48, Tryd.ntmps48
  go_wp2_with fail
  refine wp_loop_rounds 1 ?_
  rw [rounds_succ]
  go_wp2_with fail
  refine (Tryd.strings_Join_none none 0 _ _).mono ?_
  rintro e w1 ⟨rfl, rfl⟩
  go_wp2_with fail
  go_ret
  exact ⟨rfl, (by repeat (first | (with_reducible exact Below.refl _ _) | (with_reducible assumption) | (with_reducible refine bl_alloc ?_ _) | (with_reducible refine bl_drew ?_) | (with_reducible refine bl_drewN ?_ _) | (with_reducible refine bl_set ?_ (by first | (simp; done) | (simp; omega)) _) | (with_reducible refine bl_trans ?_ ‹_›)))⟩
end Go.Proofs.YtanflcccjjbkgaaDoor
