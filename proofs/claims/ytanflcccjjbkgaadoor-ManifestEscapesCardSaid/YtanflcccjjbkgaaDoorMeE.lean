/- The lines of layer 30: number, text, texts. -/
import Derived.Test.YtanflcccjjbkgaaDoorMeD
namespace Go.Proofs.YtanflcccjjbkgaaDoor
open Go.RowKit

def itoaT (n : Nat) : ByteArray := ⟨(Lib.decDigits n).toArray⟩
def escT (s : ByteArray) : ByteArray := strOfNums (escL (numsS s))
theorem escT_size (s : ByteArray) : (escT s).size ≤ 2 * s.size := by
  unfold escT; rw [strOfNums_size]
  have := escL_len (numsS s)
  rw [numsS_len] at this; exact this
theorem decD_len : ∀ n, n < 100 → (Lib.decDigits n).length ≤ 2 := by decide +kernel
theorem itoaT_size {n : Nat} (h : n < 100) : (itoaT n).size ≤ 2 := by
  have := decD_len n h
  show (Lib.decDigits n).toArray.size ≤ 2
  simpa using this
set_option maxRecDepth 100000 in
theorem number_c (base px : Nat) (parts : List ByteArray) (name : ByteArray) (n : Nat) (w : World) (hn100 : n < 100) (h : LineAt base px parts w) (hn : parts.length ≤ 100000) (hbw : base ≤ w.heap.size) (hs1 : name.size ≤ 1000000) :
    Calls Tryd.prog 45 #[.pointer (some ⟨px, 0, none⟩), .string name, .int .i64 n] w fun e w' => e = .returned (.tuple #[]) ∧ LineAt base px (parts ++ fieldP name (n != 0) (itoaT n)) w' ∧ Below base w w' := by
  have hi := itoaT_size hn100
  have hb : ((n : Int) != 0) = (n != 0) := by
    rw [Bool.eq_iff_iff]; simp
  have HP := Lib.hid (fun w h hbw => put_c base px parts name (n != 0) (itoaT n) w h hn hbw hs1 (by omega))
  generalize (n != 0) = b at *
  go_enter Tryd.func45, Tryd.ntmps45
  go_wp2_with fail
  refine (Tryd.strconv_Itoa_small n hn100 _).mono ?_
  rintro e w1 ⟨rfl, rfl⟩
  go_wp2_with fail
  refine (HP.out _ h hbw).mono ?_
  rintro e w2 ⟨rfl, h2, hb2⟩
  go_wp2_with fail
  go_end0
  exact ⟨rfl, h2, hb2⟩
set_option maxRecDepth 100000 in
theorem text_c (base px : Nat) (parts : List ByteArray) (name s : ByteArray) (w : World) (hs : s.size ≤ 1000000) (h : LineAt base px parts w) (hn : parts.length ≤ 100000) (hbw : base ≤ w.heap.size) (hs1 : name.size ≤ 1000000) :
    Calls Tryd.prog 50 #[.pointer (some ⟨px, 0, none⟩), .string name, .string s] w fun e w' => e = .returned (.tuple #[]) ∧ LineAt base px (parts ++ fieldP name (!s.toList.isEmpty) (escT s)) w' ∧ Below base w w' := by
  have hi := escT_size s
  have HP := Lib.hid (fun w h hbw => put_c base px parts name (!s.toList.isEmpty) (escT s) w h hn hbw hs1 (by omega))
  generalize hE : s.toList.isEmpty = b at *
  go_enter Tryd.func50, Tryd.ntmps50
  go_wp2_with fail
  refine (escape_c s _ hs).mono ?_
  rintro e w1 ⟨rfl, hb1⟩
  have h1 := h.after hb1
  have hbw1 : base ≤ w1.heap.size := Nat.le_trans hbw hb1.size
  clear h
  go_wp2_with fail
  refine (HP.out _ h1 hbw1).mono ?_
  rintro e w2 ⟨rfl, h2, hb2⟩
  go_wp2_with fail
  go_end0
  exact ⟨rfl, h2, (hb1.mono hbw).trans hb2⟩
set_option maxRecDepth 100000 in
theorem texts_nil (base px : Nat) (parts : List ByteArray) (name : ByteArray) (w : World) (h : LineAt base px parts w) (hbw : base ≤ w.heap.size) :
    Calls Tryd.prog 46 #[.pointer (some ⟨px, 0, none⟩), .string name, .slice none 0 0] w fun e w' => e = .returned (.tuple #[]) ∧ LineAt base px parts w' ∧ Below base w w' := by
  go_enter Tryd.func46, Tryd.ntmps46
  go_wp2_with fail
  refine (listS_nil _ _).mono ?_
  rintro e w1 ⟨rfl, hb1⟩
  have h1 := h.after hb1
  go_wp2_with fail
  refine (put_no px name _ _).mono ?_
  rintro e w2 ⟨rfl, rfl⟩
  go_wp2_with fail
  go_end0
  exact ⟨rfl, h1, hb1.mono hbw⟩
end Go.Proofs.YtanflcccjjbkgaaDoor
