/- Addresses: the walk of the law of bytes. -/
import Derived.Test.YtgdgklibilddgaaDoorAeC
import Derived.Test.YtgdgklibilddgaaDoorAdT
namespace Go.Proofs.YtgdgklibilddgaaDoor
open Go.RowKit

set_option maxRecDepth 100000 in
theorem bytes_no (v6 : Bool) (n : Nat) (w : World) (hn : n < 340282366920938463463374607431768211456) (hr : rightB v6 n = false) :
    Calls Tryd.prog 15 #[AddrV v6 n] w fun e w' => e = .returned (.string ⟨#[]⟩) ∧ Below w.heap.size w w' := by
  have HR := Lib.hid (fun w => right_c v6 n w hn)
  rw [hr] at HR
  rw [AddrV_eq] at *
  unfold AddrC at *
  go_enter Tryd.func15, Tryd.ntmps15
  go_wp2_with fail
  refine (HR.out _).mono ?_
  rintro e w1 ⟨rfl, hb1⟩
  go_wp2_with fail
  go_ret
  exact ⟨rfl, (by repeat (first | (with_reducible exact Below.refl _ _) | (with_reducible assumption) | (with_reducible refine bl_alloc ?_ _) | (with_reducible refine bl_drew ?_) | (with_reducible refine bl_drewN ?_ _) | (with_reducible refine bl_set ?_ (by first | (simp; done) | (simp; omega)) _) | (with_reducible refine bl_trans ?_ ‹_›)))⟩
theorem bts_length (s : ByteArray) : (bts s).length = s.size := by simp [bts]
theorem txt_nums (s : ByteArray) : txt (nums s) = s := by
  unfold txt nums
  rw [txt_back]
  apply ByteArray.ext
  simp [bts]
/-- a text of four or sixteen bytes and its address -/
theorem of_back {s : ByteArray} {v : Bool} (h : s.size = byteN v) : txt (bytesB (byteN v) (valB (nums s))) = s ∧ rightB v (valB (nums s)) = true ∧ valB (nums s) < 340282366920938463463374607431768211456 := by
  have hl : (nums s).length = byteN v := by rw [nums_len, h]
  have hv := valB_lt' (nums s) (nums_lt s)
  rw [hl] at hv
  refine ⟨?_, ?_, ?_⟩
  · rw [← hl, bytesB_val _ (nums_lt s), txt_nums]
  · unfold rightB
    rw [byteN_w, Nat.pow_mul]
    exact decide_eq_true hv
  · refine Nat.lt_of_lt_of_le hv ?_
    cases v <;> decide
set_option maxRecDepth 100000 in
set_option maxHeartbeats 1600000 in
theorem addrBytes_walk (v : Bool) (a : Nat) (s : ByteArray) (w : World) (ha : a < 340282366920938463463374607431768211456) (hG : Glob w) :
    Calls Tryd.prog 5 #[AddrV v a, .string s] w fun e w' => e = .returned (.bool true) ∧ Below w.heap.size w w' := by
  have HAW := Lib.hid (fun w hG => awake02_c w hG)
  by_cases hs : 1000 < s.size
  · have d : (1000 : Int) < s.size := by omega
    rw [AddrV_eq] at *
    unfold AddrC at *
    go_enter Tryd.func5, Tryd.ntmps5
    go_wp2_with fail
    refine (HAW.out _ (hG.after (by repeat (first | (with_reducible exact Below.refl _ _) | (with_reducible assumption) | (with_reducible refine bl_alloc ?_ _) | (with_reducible refine bl_drew ?_) | (with_reducible refine bl_drewN ?_ _) | (with_reducible refine bl_set ?_ (by first | (simp; done) | (simp; omega)) _) | (with_reducible refine bl_trans ?_ ‹_›))))).mono ?_
    rintro e w1 ⟨rfl, hb1⟩
    go_wp2_with fail
    go_ret
    exact ⟨rfl, (by repeat (first | (with_reducible exact Below.refl _ _) | (with_reducible assumption) | (with_reducible refine bl_alloc ?_ _) | (with_reducible refine bl_drew ?_) | (with_reducible refine bl_drewN ?_ _) | (with_reducible refine bl_set ?_ (by first | (simp; done) | (simp; omega)) _) | (with_reducible refine bl_trans ?_ ‹_›)))⟩
  have d : ¬ (1000 : Int) < s.size := by omega
  have HRR := Lib.hid (fun w => rright_c v a w ha)
  have hcase : s.size = 4 ∨ s.size = 16 ∨ ¬ (s.size = 4 ∨ s.size = 16) := by omega
  by_cases hr : rightB v a = true
  · have HA1 := Lib.hid (fun w => bytes_c v a w ha hr)
    rw [hr] at HRR
    have hTs : (txt (bytesB (byteN v) a)).size = byteN v := by
      have := congrArg List.length (bts_txt (bytesB (byteN v) a))
      rw [List.length_map, bytesB_len, bts_length] at this
      exact this
    have hTn : nums (txt (bytesB (byteN v) a)) = bytesB (byteN v) a := by
      unfold nums
      rw [bts_txt, List.map_map]
      conv => rhs; rw [← List.map_id (bytesB (byteN v) a)]
      apply List.map_congr_left
      intro x hx
      have := bytesB_lt hx
      simp
      omega
    have HO2 := Lib.hid (fun w => aofbytes_ok (txt (bytesB (byteN v) a)) (byteN v) w hTs (by cases v <;> simp [byteN]))
    have h16v : (byteN v == 16) = v := by cases v <;> rfl
    rw [hTn, valB_bytes _ _ (bytes_fit hr), h16v] at HO2
    have HRB := Lib.hid (fun w => rbytes_c v a w ha)
    obtain ⟨T, hT⟩ : ∃ T, txt (bytesB (byteN v) a) = T := ⟨_, rfl⟩
    rw [hT] at HA1 HO2
    have HT := Lib.hid hT
    have hbl : (ints (bytesB (byteN v) a)).length = byteN v := by rw [ints_len, bytesB_len]
    have HBL := Lib.hid hbl
    have hT2 : strOfNums (ints (bytesB (byteN v) a)) = T := hT
    have HT2 := Lib.hid hT2
    clear hTs hTn h16v hT hbl hT2
    rcases hcase with hsz | hsz | hsz
    · obtain ⟨k1, k2, k3⟩ := of_back (s := s) (v := false) hsz
      have HO := Lib.hid (fun w => aofbytes_ok s 4 w hsz (by omega))
      have h16 : ((4 : Nat) == 16) = false := by decide
      rw [h16] at HO
      have HB := Lib.hid (fun w => bytes_c false (valB (nums s)) w k3 k2)
      rw [k1] at HB
      have hsI : (s.size : Int) = 4 := by omega
      clear k1 k2 k3 h16
      generalize valB (nums s) = V at *
      simp only [AddrV_eq, AddrC] at *
      go_enter Tryd.func5, Tryd.ntmps5
      go_wp2_with fail
      have hA : Blk (w.alloc (Obj.cells #[.bool v, .int .u64 (hi a), .int .u64 (lo a)] 26)) (w.heap.size) 26 (AddrC v a) := (Blk.new' _ _ _ _ (by simp) : Blk (w.alloc (Obj.cells #[.bool v, .int .u64 (hi a), .int .u64 (lo a)] 26)) (w.heap.size) 26 (AddrC v a))
      have hbel : Below w.heap.size w (w.alloc (Obj.cells #[.bool v, .int .u64 (hi a), .int .u64 (lo a)] 26)) := (by repeat (first | (with_reducible exact Below.refl _ _) | (with_reducible assumption) | (with_reducible refine bl_alloc ?_ _) | (with_reducible refine bl_drew ?_) | (with_reducible refine bl_drewN ?_ _) | (with_reducible refine bl_set ?_ (by first | (simp; done) | (simp; omega)) _) | (with_reducible refine bl_trans ?_ ‹_›)))
      replace hG := hG.after hbel
      have hsz : (w.alloc (Obj.cells #[.bool v, .int .u64 (hi a), .int .u64 (lo a)] 26)).heap.size = w.heap.size + 1 := by simp
      generalize w.alloc (Obj.cells #[.bool v, .int .u64 (hi a), .int .u64 (lo a)] 26) = w0 at *
      with_reducible refine (HAW.out _ hG).mono ?_
      rintro e w1 ⟨rfl, hb⟩
      (try clear a0 a1 a2 az0 az1 az2 az3)
      replace hA := hA.after hb
      obtain ⟨a0, a1, a2, _⟩ := blk_adr hA
      have az0 := hA.frozen 0
      have az1 := hA.frozen 1
      have az2 := hA.frozen 2
      (try clear al al1 al2)
      have al := hA.lt
      have al1 := Nat.lt_succ_of_lt al
      have al2 := Nat.lt_succ_of_lt al1
      try simp only [Nat.succ_eq_add_one] at al1 al2
      replace hG := hG.after hb
      replace hbel := bl_trans hbel hb
      clear hb
      go_wp2_with fail
      with_reducible refine (HO.out _).mono ?_
      rintro e w2 ⟨rfl, hb⟩
      (try clear a0 a1 a2 az0 az1 az2 az3)
      replace hA := hA.after hb
      obtain ⟨a0, a1, a2, _⟩ := blk_adr hA
      have az0 := hA.frozen 0
      have az1 := hA.frozen 1
      have az2 := hA.frozen 2
      (try clear al al1 al2)
      have al := hA.lt
      have al1 := Nat.lt_succ_of_lt al
      have al2 := Nat.lt_succ_of_lt al1
      try simp only [Nat.succ_eq_add_one] at al1 al2
      replace hG := hG.after hb
      replace hbel := bl_trans hbel hb
      clear hb
      go_wp2_with fail
      with_reducible refine (HB.out _).mono ?_
      rintro e w3 ⟨rfl, hb⟩
      have hB' : Blk w3 w2.heap.size 26 #[.bool false, .int .u64 (hi V), .int .u64 (lo V)] := (by repeat (first | (with_reducible assumption) | (with_reducible refine blk_fill (u := .int .u64 0) (v := .int .u64 0) ?_) | (with_reducible refine Blk.drew ?_) | (with_reducible refine Blk.new' _ _ _ _ (by first | (with_reducible rfl) | (simp; done))) | (with_reducible refine Blk.alloc ?_ _) | (with_reducible refine Blk.after ?_ ‹_›) | (with_reducible refine Blk.far ?_ (by first | (simp; done) | (simp; omega)) _)))
      have hB : Blk w3 w2.heap.size 26 (AddrC false V) := hB'
      have hbn : Below w2.heap.size w2 w3 := (by repeat (first | (with_reducible exact Below.refl _ _) | (with_reducible assumption) | (with_reducible refine bl_alloc ?_ _) | (with_reducible refine bl_drew ?_) | (with_reducible refine bl_drewN ?_ _) | (with_reducible refine bl_set ?_ (by first | (simp; done) | (simp; omega)) _) | (with_reducible refine bl_trans ?_ ‹_›)))
      replace hA := hA.after hbn
      replace hbel := bl_trans hbel hbn
      clear hB' hb hbn a0 a1 a2 az0 az1 az2
      obtain ⟨a0, a1, a2, _⟩ := blk_adr hA
      have az0 := hA.frozen 0
      have az1 := hA.frozen 1
      have az2 := hA.frozen 2
      obtain ⟨b0, b1, b2, _⟩ := blk_adr hB
      have bz0 := hB.frozen 0
      have bz1 := hB.frozen 1
      have bz2 := hB.frozen 2
      go_wp2_with fail
      with_reducible refine (HA1.out _).mono ?_
      rintro e w5 ⟨rfl, hb5⟩
      have hA5 : Blk w5 w.heap.size 26 (AddrC v a) := (by repeat (first | (with_reducible assumption) | (with_reducible refine blk_fill (u := .int .u64 0) (v := .int .u64 0) ?_) | (with_reducible refine Blk.drew ?_) | (with_reducible refine Blk.new' _ _ _ _ (by first | (with_reducible rfl) | (simp; done))) | (with_reducible refine Blk.alloc ?_ _) | (with_reducible refine Blk.after ?_ ‹_›) | (with_reducible refine Blk.far ?_ (by first | (simp; done) | (simp; omega)) _)))
      have hbel5 : Below w.heap.size w w5 := (by repeat (first | (with_reducible exact Below.refl _ _) | (with_reducible assumption) | (with_reducible refine bl_alloc ?_ _) | (with_reducible refine bl_drew ?_) | (with_reducible refine bl_drewN ?_ _) | (with_reducible refine bl_set ?_ (by first | (simp; done) | (simp; omega)) _) | (with_reducible refine bl_trans ?_ ‹_›)))
      clear hA hbel a0 a1 a2 az0 az1 az2
      obtain ⟨a0, a1, a2, _⟩ := blk_adr hA5
      have az0 := hA5.frozen 0
      have az1 := hA5.frozen 1
      have az2 := hA5.frozen 2
      go_wp2_with fail
      with_reducible refine (HRR.out _).mono ?_
      rintro e w6 ⟨rfl, hb6⟩
      have hA6 := hA5.after hb6
      have hbel6 := bl_trans hbel5 hb6
      clear hA5 hbel5 a0 a1 a2 az0 az1 az2
      obtain ⟨a0, a1, a2, _⟩ := blk_adr hA6
      have az0 := hA6.frozen 0
      have az1 := hA6.frozen 1
      have az2 := hA6.frozen 2
      have al := hA6.lt
      go_wp2_with fail
      with_reducible refine (HO2.out _).mono ?_
      rintro e w7 ⟨rfl, hb7⟩
      have hA7 := hA6.after hb7
      have hbel7 := bl_trans hbel6 hb7
      clear hA6 hbel6 a0 a1 a2 az0 az1 az2 al
      obtain ⟨a0, a1, a2, _⟩ := blk_adr hA7
      have az0 := hA7.frozen 0
      have az1 := hA7.frozen 1
      have az2 := hA7.frozen 2
      have al := hA7.lt
      go_wp2_with fail
      with_reducible refine (HRB.out _).mono ?_
      rintro e w8 ⟨vb, rfl, hown, hb⟩
      have hC' : Blk w8 w7.heap.size 26 #[.bool v, .int .u64 (hi a), .int .u64 (lo a)] := (by repeat (first | (with_reducible assumption) | (with_reducible refine blk_fill (u := .int .u64 0) (v := .int .u64 0) ?_) | (with_reducible refine Blk.drew ?_) | (with_reducible refine Blk.new' _ _ _ _ (by first | (with_reducible rfl) | (simp; done))) | (with_reducible refine Blk.alloc ?_ _) | (with_reducible refine Blk.after ?_ ‹_›) | (with_reducible refine Blk.far ?_ (by first | (simp; done) | (simp; omega)) _)))
      have hC : Blk w8 w7.heap.size 26 (AddrC v a) := hC'
      have hbn : Below w7.heap.size w7 w8 := (by repeat (first | (with_reducible exact Below.refl _ _) | (with_reducible assumption) | (with_reducible refine bl_alloc ?_ _) | (with_reducible refine bl_drew ?_) | (with_reducible refine bl_drewN ?_ _) | (with_reducible refine bl_set ?_ (by first | (simp; done) | (simp; omega)) _) | (with_reducible refine bl_trans ?_ ‹_›)))
      have hA8 := hA7.after hbn
      have hbel8 := bl_trans hbel7 hbn
      clear hA7 hbel7 hC' hbn hb a0 a1 a2 az0 az1 az2
      obtain ⟨a0, a1, a2, _⟩ := blk_adr hA8
      have az0 := hA8.frozen 0
      have az1 := hA8.frozen 1
      have az2 := hA8.frozen 2
      obtain ⟨c0, c1, c2, _⟩ := blk_adr hC
      have cz0 := hC.frozen 0
      have cz1 := hC.frozen 1
      have cz2 := hC.frozen 2
      have hconv := conv_own (l := ints (bytesB (byteN v) a)) (by rw [HBL.out]; exact hown)
      rw [HT2.out] at hconv
      go_wp2_with fail
      go_ret
      exact ⟨rfl, hbel8⟩
    · obtain ⟨k1, k2, k3⟩ := of_back (s := s) (v := true) hsz
      have HO := Lib.hid (fun w => aofbytes_ok s 16 w hsz (by omega))
      have h16 : ((16 : Nat) == 16) = true := by decide
      rw [h16] at HO
      have HB := Lib.hid (fun w => bytes_c true (valB (nums s)) w k3 k2)
      rw [k1] at HB
      have hsI : (s.size : Int) = 16 := by omega
      clear k1 k2 k3 h16
      generalize valB (nums s) = V at *
      simp only [AddrV_eq, AddrC] at *
      go_enter Tryd.func5, Tryd.ntmps5
      go_wp2_with fail
      have hA : Blk (w.alloc (Obj.cells #[.bool v, .int .u64 (hi a), .int .u64 (lo a)] 26)) (w.heap.size) 26 (AddrC v a) := (Blk.new' _ _ _ _ (by simp) : Blk (w.alloc (Obj.cells #[.bool v, .int .u64 (hi a), .int .u64 (lo a)] 26)) (w.heap.size) 26 (AddrC v a))
      have hbel : Below w.heap.size w (w.alloc (Obj.cells #[.bool v, .int .u64 (hi a), .int .u64 (lo a)] 26)) := (by repeat (first | (with_reducible exact Below.refl _ _) | (with_reducible assumption) | (with_reducible refine bl_alloc ?_ _) | (with_reducible refine bl_drew ?_) | (with_reducible refine bl_drewN ?_ _) | (with_reducible refine bl_set ?_ (by first | (simp; done) | (simp; omega)) _) | (with_reducible refine bl_trans ?_ ‹_›)))
      replace hG := hG.after hbel
      have hsz : (w.alloc (Obj.cells #[.bool v, .int .u64 (hi a), .int .u64 (lo a)] 26)).heap.size = w.heap.size + 1 := by simp
      generalize w.alloc (Obj.cells #[.bool v, .int .u64 (hi a), .int .u64 (lo a)] 26) = w0 at *
      with_reducible refine (HAW.out _ hG).mono ?_
      rintro e w1 ⟨rfl, hb⟩
      (try clear a0 a1 a2 az0 az1 az2 az3)
      replace hA := hA.after hb
      obtain ⟨a0, a1, a2, _⟩ := blk_adr hA
      have az0 := hA.frozen 0
      have az1 := hA.frozen 1
      have az2 := hA.frozen 2
      (try clear al al1 al2)
      have al := hA.lt
      have al1 := Nat.lt_succ_of_lt al
      have al2 := Nat.lt_succ_of_lt al1
      try simp only [Nat.succ_eq_add_one] at al1 al2
      replace hG := hG.after hb
      replace hbel := bl_trans hbel hb
      clear hb
      go_wp2_with fail
      with_reducible refine (HO.out _).mono ?_
      rintro e w2 ⟨rfl, hb⟩
      (try clear a0 a1 a2 az0 az1 az2 az3)
      replace hA := hA.after hb
      obtain ⟨a0, a1, a2, _⟩ := blk_adr hA
      have az0 := hA.frozen 0
      have az1 := hA.frozen 1
      have az2 := hA.frozen 2
      (try clear al al1 al2)
      have al := hA.lt
      have al1 := Nat.lt_succ_of_lt al
      have al2 := Nat.lt_succ_of_lt al1
      try simp only [Nat.succ_eq_add_one] at al1 al2
      replace hG := hG.after hb
      replace hbel := bl_trans hbel hb
      clear hb
      go_wp2_with fail
      with_reducible refine (HB.out _).mono ?_
      rintro e w3 ⟨rfl, hb⟩
      have hB' : Blk w3 w2.heap.size 26 #[.bool true, .int .u64 (hi V), .int .u64 (lo V)] := (by repeat (first | (with_reducible assumption) | (with_reducible refine blk_fill (u := .int .u64 0) (v := .int .u64 0) ?_) | (with_reducible refine Blk.drew ?_) | (with_reducible refine Blk.new' _ _ _ _ (by first | (with_reducible rfl) | (simp; done))) | (with_reducible refine Blk.alloc ?_ _) | (with_reducible refine Blk.after ?_ ‹_›) | (with_reducible refine Blk.far ?_ (by first | (simp; done) | (simp; omega)) _)))
      have hB : Blk w3 w2.heap.size 26 (AddrC true V) := hB'
      have hbn : Below w2.heap.size w2 w3 := (by repeat (first | (with_reducible exact Below.refl _ _) | (with_reducible assumption) | (with_reducible refine bl_alloc ?_ _) | (with_reducible refine bl_drew ?_) | (with_reducible refine bl_drewN ?_ _) | (with_reducible refine bl_set ?_ (by first | (simp; done) | (simp; omega)) _) | (with_reducible refine bl_trans ?_ ‹_›)))
      replace hA := hA.after hbn
      replace hbel := bl_trans hbel hbn
      clear hB' hb hbn a0 a1 a2 az0 az1 az2
      obtain ⟨a0, a1, a2, _⟩ := blk_adr hA
      have az0 := hA.frozen 0
      have az1 := hA.frozen 1
      have az2 := hA.frozen 2
      obtain ⟨b0, b1, b2, _⟩ := blk_adr hB
      have bz0 := hB.frozen 0
      have bz1 := hB.frozen 1
      have bz2 := hB.frozen 2
      go_wp2_with fail
      with_reducible refine (HA1.out _).mono ?_
      rintro e w5 ⟨rfl, hb5⟩
      have hA5 : Blk w5 w.heap.size 26 (AddrC v a) := (by repeat (first | (with_reducible assumption) | (with_reducible refine blk_fill (u := .int .u64 0) (v := .int .u64 0) ?_) | (with_reducible refine Blk.drew ?_) | (with_reducible refine Blk.new' _ _ _ _ (by first | (with_reducible rfl) | (simp; done))) | (with_reducible refine Blk.alloc ?_ _) | (with_reducible refine Blk.after ?_ ‹_›) | (with_reducible refine Blk.far ?_ (by first | (simp; done) | (simp; omega)) _)))
      have hbel5 : Below w.heap.size w w5 := (by repeat (first | (with_reducible exact Below.refl _ _) | (with_reducible assumption) | (with_reducible refine bl_alloc ?_ _) | (with_reducible refine bl_drew ?_) | (with_reducible refine bl_drewN ?_ _) | (with_reducible refine bl_set ?_ (by first | (simp; done) | (simp; omega)) _) | (with_reducible refine bl_trans ?_ ‹_›)))
      clear hA hbel a0 a1 a2 az0 az1 az2
      obtain ⟨a0, a1, a2, _⟩ := blk_adr hA5
      have az0 := hA5.frozen 0
      have az1 := hA5.frozen 1
      have az2 := hA5.frozen 2
      go_wp2_with fail
      with_reducible refine (HRR.out _).mono ?_
      rintro e w6 ⟨rfl, hb6⟩
      have hA6 := hA5.after hb6
      have hbel6 := bl_trans hbel5 hb6
      clear hA5 hbel5 a0 a1 a2 az0 az1 az2
      obtain ⟨a0, a1, a2, _⟩ := blk_adr hA6
      have az0 := hA6.frozen 0
      have az1 := hA6.frozen 1
      have az2 := hA6.frozen 2
      have al := hA6.lt
      go_wp2_with fail
      with_reducible refine (HO2.out _).mono ?_
      rintro e w7 ⟨rfl, hb7⟩
      have hA7 := hA6.after hb7
      have hbel7 := bl_trans hbel6 hb7
      clear hA6 hbel6 a0 a1 a2 az0 az1 az2 al
      obtain ⟨a0, a1, a2, _⟩ := blk_adr hA7
      have az0 := hA7.frozen 0
      have az1 := hA7.frozen 1
      have az2 := hA7.frozen 2
      have al := hA7.lt
      go_wp2_with fail
      with_reducible refine (HRB.out _).mono ?_
      rintro e w8 ⟨vb, rfl, hown, hb⟩
      have hC' : Blk w8 w7.heap.size 26 #[.bool v, .int .u64 (hi a), .int .u64 (lo a)] := (by repeat (first | (with_reducible assumption) | (with_reducible refine blk_fill (u := .int .u64 0) (v := .int .u64 0) ?_) | (with_reducible refine Blk.drew ?_) | (with_reducible refine Blk.new' _ _ _ _ (by first | (with_reducible rfl) | (simp; done))) | (with_reducible refine Blk.alloc ?_ _) | (with_reducible refine Blk.after ?_ ‹_›) | (with_reducible refine Blk.far ?_ (by first | (simp; done) | (simp; omega)) _)))
      have hC : Blk w8 w7.heap.size 26 (AddrC v a) := hC'
      have hbn : Below w7.heap.size w7 w8 := (by repeat (first | (with_reducible exact Below.refl _ _) | (with_reducible assumption) | (with_reducible refine bl_alloc ?_ _) | (with_reducible refine bl_drew ?_) | (with_reducible refine bl_drewN ?_ _) | (with_reducible refine bl_set ?_ (by first | (simp; done) | (simp; omega)) _) | (with_reducible refine bl_trans ?_ ‹_›)))
      have hA8 := hA7.after hbn
      have hbel8 := bl_trans hbel7 hbn
      clear hA7 hbel7 hC' hbn hb a0 a1 a2 az0 az1 az2
      obtain ⟨a0, a1, a2, _⟩ := blk_adr hA8
      have az0 := hA8.frozen 0
      have az1 := hA8.frozen 1
      have az2 := hA8.frozen 2
      obtain ⟨c0, c1, c2, _⟩ := blk_adr hC
      have cz0 := hC.frozen 0
      have cz1 := hC.frozen 1
      have cz2 := hC.frozen 2
      have hconv := conv_own (l := ints (bytesB (byteN v) a)) (by rw [HBL.out]; exact hown)
      rw [HT2.out] at hconv
      go_wp2_with fail
      go_ret
      exact ⟨rfl, hbel8⟩
    · have HO := Lib.hid (fun w => aofbytes_bad s w (by omega) (fun h => hsz (.inl h)) (fun h => hsz (.inr h)))
      have e4 : ((s.size : Int) == 4) = false := by simp; omega
      have e16 : ((s.size : Int) == 16) = false := by simp; omega
      clear hsz
      simp only [AddrV_eq, AddrC] at *
      simp only [hi_zero, lo_zero] at HO
      go_enter Tryd.func5, Tryd.ntmps5
      go_wp2_with fail
      have hA : Blk (w.alloc (Obj.cells #[.bool v, .int .u64 (hi a), .int .u64 (lo a)] 26)) (w.heap.size) 26 (AddrC v a) := (Blk.new' _ _ _ _ (by simp) : Blk (w.alloc (Obj.cells #[.bool v, .int .u64 (hi a), .int .u64 (lo a)] 26)) (w.heap.size) 26 (AddrC v a))
      have hbel : Below w.heap.size w (w.alloc (Obj.cells #[.bool v, .int .u64 (hi a), .int .u64 (lo a)] 26)) := (by repeat (first | (with_reducible exact Below.refl _ _) | (with_reducible assumption) | (with_reducible refine bl_alloc ?_ _) | (with_reducible refine bl_drew ?_) | (with_reducible refine bl_drewN ?_ _) | (with_reducible refine bl_set ?_ (by first | (simp; done) | (simp; omega)) _) | (with_reducible refine bl_trans ?_ ‹_›)))
      replace hG := hG.after hbel
      have hsz : (w.alloc (Obj.cells #[.bool v, .int .u64 (hi a), .int .u64 (lo a)] 26)).heap.size = w.heap.size + 1 := by simp
      generalize w.alloc (Obj.cells #[.bool v, .int .u64 (hi a), .int .u64 (lo a)] 26) = w0 at *
      with_reducible refine (HAW.out _ hG).mono ?_
      rintro e w1 ⟨rfl, hb⟩
      (try clear a0 a1 a2 az0 az1 az2 az3)
      replace hA := hA.after hb
      obtain ⟨a0, a1, a2, _⟩ := blk_adr hA
      have az0 := hA.frozen 0
      have az1 := hA.frozen 1
      have az2 := hA.frozen 2
      (try clear al al1 al2)
      have al := hA.lt
      have al1 := Nat.lt_succ_of_lt al
      have al2 := Nat.lt_succ_of_lt al1
      try simp only [Nat.succ_eq_add_one] at al1 al2
      replace hG := hG.after hb
      replace hbel := bl_trans hbel hb
      clear hb
      go_wp2_with fail
      with_reducible refine (HO.out _).mono ?_
      rintro e w2 ⟨rfl, hb⟩
      (try clear a0 a1 a2 az0 az1 az2 az3)
      replace hA := hA.after hb
      obtain ⟨a0, a1, a2, _⟩ := blk_adr hA
      have az0 := hA.frozen 0
      have az1 := hA.frozen 1
      have az2 := hA.frozen 2
      (try clear al al1 al2)
      have al := hA.lt
      have al1 := Nat.lt_succ_of_lt al
      have al2 := Nat.lt_succ_of_lt al1
      try simp only [Nat.succ_eq_add_one] at al1 al2
      replace hG := hG.after hb
      replace hbel := bl_trans hbel hb
      clear hb
      go_wp2_with fail
      with_reducible refine (HA1.out _).mono ?_
      rintro e w5 ⟨rfl, hb5⟩
      have hA5 : Blk w5 w.heap.size 26 (AddrC v a) := (by repeat (first | (with_reducible assumption) | (with_reducible refine blk_fill (u := .int .u64 0) (v := .int .u64 0) ?_) | (with_reducible refine Blk.drew ?_) | (with_reducible refine Blk.new' _ _ _ _ (by first | (with_reducible rfl) | (simp; done))) | (with_reducible refine Blk.alloc ?_ _) | (with_reducible refine Blk.after ?_ ‹_›) | (with_reducible refine Blk.far ?_ (by first | (simp; done) | (simp; omega)) _)))
      have hbel5 : Below w.heap.size w w5 := (by repeat (first | (with_reducible exact Below.refl _ _) | (with_reducible assumption) | (with_reducible refine bl_alloc ?_ _) | (with_reducible refine bl_drew ?_) | (with_reducible refine bl_drewN ?_ _) | (with_reducible refine bl_set ?_ (by first | (simp; done) | (simp; omega)) _) | (with_reducible refine bl_trans ?_ ‹_›)))
      clear hA hbel a0 a1 a2 az0 az1 az2
      obtain ⟨a0, a1, a2, _⟩ := blk_adr hA5
      have az0 := hA5.frozen 0
      have az1 := hA5.frozen 1
      have az2 := hA5.frozen 2
      go_wp2_with fail
      with_reducible refine (HRR.out _).mono ?_
      rintro e w6 ⟨rfl, hb6⟩
      have hA6 := hA5.after hb6
      have hbel6 := bl_trans hbel5 hb6
      clear hA5 hbel5 a0 a1 a2 az0 az1 az2
      obtain ⟨a0, a1, a2, _⟩ := blk_adr hA6
      have az0 := hA6.frozen 0
      have az1 := hA6.frozen 1
      have az2 := hA6.frozen 2
      have al := hA6.lt
      go_wp2_with fail
      with_reducible refine (HO2.out _).mono ?_
      rintro e w7 ⟨rfl, hb7⟩
      have hA7 := hA6.after hb7
      have hbel7 := bl_trans hbel6 hb7
      clear hA6 hbel6 a0 a1 a2 az0 az1 az2 al
      obtain ⟨a0, a1, a2, _⟩ := blk_adr hA7
      have az0 := hA7.frozen 0
      have az1 := hA7.frozen 1
      have az2 := hA7.frozen 2
      have al := hA7.lt
      go_wp2_with fail
      with_reducible refine (HRB.out _).mono ?_
      rintro e w8 ⟨vb, rfl, hown, hb⟩
      have hC' : Blk w8 w7.heap.size 26 #[.bool v, .int .u64 (hi a), .int .u64 (lo a)] := (by repeat (first | (with_reducible assumption) | (with_reducible refine blk_fill (u := .int .u64 0) (v := .int .u64 0) ?_) | (with_reducible refine Blk.drew ?_) | (with_reducible refine Blk.new' _ _ _ _ (by first | (with_reducible rfl) | (simp; done))) | (with_reducible refine Blk.alloc ?_ _) | (with_reducible refine Blk.after ?_ ‹_›) | (with_reducible refine Blk.far ?_ (by first | (simp; done) | (simp; omega)) _)))
      have hC : Blk w8 w7.heap.size 26 (AddrC v a) := hC'
      have hbn : Below w7.heap.size w7 w8 := (by repeat (first | (with_reducible exact Below.refl _ _) | (with_reducible assumption) | (with_reducible refine bl_alloc ?_ _) | (with_reducible refine bl_drew ?_) | (with_reducible refine bl_drewN ?_ _) | (with_reducible refine bl_set ?_ (by first | (simp; done) | (simp; omega)) _) | (with_reducible refine bl_trans ?_ ‹_›)))
      have hA8 := hA7.after hbn
      have hbel8 := bl_trans hbel7 hbn
      clear hA7 hbel7 hC' hbn hb a0 a1 a2 az0 az1 az2
      obtain ⟨a0, a1, a2, _⟩ := blk_adr hA8
      have az0 := hA8.frozen 0
      have az1 := hA8.frozen 1
      have az2 := hA8.frozen 2
      obtain ⟨c0, c1, c2, _⟩ := blk_adr hC
      have cz0 := hC.frozen 0
      have cz1 := hC.frozen 1
      have cz2 := hC.frozen 2
      have hconv := conv_own (l := ints (bytesB (byteN v) a)) (by rw [HBL.out]; exact hown)
      rw [HT2.out] at hconv
      go_wp2_with fail
      go_ret
      exact ⟨rfl, hbel8⟩
  · have hr' : rightB v a = false := by simpa using hr
    have HA1 := Lib.hid (fun w => bytes_no v a w ha hr')
    rw [hr'] at HRR
    clear hr
    rcases hcase with hsz | hsz | hsz
    · obtain ⟨k1, k2, k3⟩ := of_back (s := s) (v := false) hsz
      have HO := Lib.hid (fun w => aofbytes_ok s 4 w hsz (by omega))
      have h16 : ((4 : Nat) == 16) = false := by decide
      rw [h16] at HO
      have HB := Lib.hid (fun w => bytes_c false (valB (nums s)) w k3 k2)
      rw [k1] at HB
      have hsI : (s.size : Int) = 4 := by omega
      clear k1 k2 k3 h16
      generalize valB (nums s) = V at *
      simp only [AddrV_eq, AddrC] at *
      go_enter Tryd.func5, Tryd.ntmps5
      go_wp2_with fail
      have hA : Blk (w.alloc (Obj.cells #[.bool v, .int .u64 (hi a), .int .u64 (lo a)] 26)) (w.heap.size) 26 (AddrC v a) := (Blk.new' _ _ _ _ (by simp) : Blk (w.alloc (Obj.cells #[.bool v, .int .u64 (hi a), .int .u64 (lo a)] 26)) (w.heap.size) 26 (AddrC v a))
      have hbel : Below w.heap.size w (w.alloc (Obj.cells #[.bool v, .int .u64 (hi a), .int .u64 (lo a)] 26)) := (by repeat (first | (with_reducible exact Below.refl _ _) | (with_reducible assumption) | (with_reducible refine bl_alloc ?_ _) | (with_reducible refine bl_drew ?_) | (with_reducible refine bl_drewN ?_ _) | (with_reducible refine bl_set ?_ (by first | (simp; done) | (simp; omega)) _) | (with_reducible refine bl_trans ?_ ‹_›)))
      replace hG := hG.after hbel
      have hsz : (w.alloc (Obj.cells #[.bool v, .int .u64 (hi a), .int .u64 (lo a)] 26)).heap.size = w.heap.size + 1 := by simp
      generalize w.alloc (Obj.cells #[.bool v, .int .u64 (hi a), .int .u64 (lo a)] 26) = w0 at *
      with_reducible refine (HAW.out _ hG).mono ?_
      rintro e w1 ⟨rfl, hb⟩
      (try clear a0 a1 a2 az0 az1 az2 az3)
      replace hA := hA.after hb
      obtain ⟨a0, a1, a2, _⟩ := blk_adr hA
      have az0 := hA.frozen 0
      have az1 := hA.frozen 1
      have az2 := hA.frozen 2
      (try clear al al1 al2)
      have al := hA.lt
      have al1 := Nat.lt_succ_of_lt al
      have al2 := Nat.lt_succ_of_lt al1
      try simp only [Nat.succ_eq_add_one] at al1 al2
      replace hG := hG.after hb
      replace hbel := bl_trans hbel hb
      clear hb
      go_wp2_with fail
      with_reducible refine (HO.out _).mono ?_
      rintro e w2 ⟨rfl, hb⟩
      (try clear a0 a1 a2 az0 az1 az2 az3)
      replace hA := hA.after hb
      obtain ⟨a0, a1, a2, _⟩ := blk_adr hA
      have az0 := hA.frozen 0
      have az1 := hA.frozen 1
      have az2 := hA.frozen 2
      (try clear al al1 al2)
      have al := hA.lt
      have al1 := Nat.lt_succ_of_lt al
      have al2 := Nat.lt_succ_of_lt al1
      try simp only [Nat.succ_eq_add_one] at al1 al2
      replace hG := hG.after hb
      replace hbel := bl_trans hbel hb
      clear hb
      go_wp2_with fail
      with_reducible refine (HB.out _).mono ?_
      rintro e w3 ⟨rfl, hb⟩
      have hB' : Blk w3 w2.heap.size 26 #[.bool false, .int .u64 (hi V), .int .u64 (lo V)] := (by repeat (first | (with_reducible assumption) | (with_reducible refine blk_fill (u := .int .u64 0) (v := .int .u64 0) ?_) | (with_reducible refine Blk.drew ?_) | (with_reducible refine Blk.new' _ _ _ _ (by first | (with_reducible rfl) | (simp; done))) | (with_reducible refine Blk.alloc ?_ _) | (with_reducible refine Blk.after ?_ ‹_›) | (with_reducible refine Blk.far ?_ (by first | (simp; done) | (simp; omega)) _)))
      have hB : Blk w3 w2.heap.size 26 (AddrC false V) := hB'
      have hbn : Below w2.heap.size w2 w3 := (by repeat (first | (with_reducible exact Below.refl _ _) | (with_reducible assumption) | (with_reducible refine bl_alloc ?_ _) | (with_reducible refine bl_drew ?_) | (with_reducible refine bl_drewN ?_ _) | (with_reducible refine bl_set ?_ (by first | (simp; done) | (simp; omega)) _) | (with_reducible refine bl_trans ?_ ‹_›)))
      replace hA := hA.after hbn
      replace hbel := bl_trans hbel hbn
      clear hB' hb hbn a0 a1 a2 az0 az1 az2
      obtain ⟨a0, a1, a2, _⟩ := blk_adr hA
      have az0 := hA.frozen 0
      have az1 := hA.frozen 1
      have az2 := hA.frozen 2
      obtain ⟨b0, b1, b2, _⟩ := blk_adr hB
      have bz0 := hB.frozen 0
      have bz1 := hB.frozen 1
      have bz2 := hB.frozen 2
      go_wp2_with fail
      with_reducible refine (HA1.out _).mono ?_
      rintro e w5 ⟨rfl, hb5⟩
      have hA5 : Blk w5 w.heap.size 26 (AddrC v a) := (by repeat (first | (with_reducible assumption) | (with_reducible refine blk_fill (u := .int .u64 0) (v := .int .u64 0) ?_) | (with_reducible refine Blk.drew ?_) | (with_reducible refine Blk.new' _ _ _ _ (by first | (with_reducible rfl) | (simp; done))) | (with_reducible refine Blk.alloc ?_ _) | (with_reducible refine Blk.after ?_ ‹_›) | (with_reducible refine Blk.far ?_ (by first | (simp; done) | (simp; omega)) _)))
      have hbel5 : Below w.heap.size w w5 := (by repeat (first | (with_reducible exact Below.refl _ _) | (with_reducible assumption) | (with_reducible refine bl_alloc ?_ _) | (with_reducible refine bl_drew ?_) | (with_reducible refine bl_drewN ?_ _) | (with_reducible refine bl_set ?_ (by first | (simp; done) | (simp; omega)) _) | (with_reducible refine bl_trans ?_ ‹_›)))
      clear hA hbel a0 a1 a2 az0 az1 az2
      obtain ⟨a0, a1, a2, _⟩ := blk_adr hA5
      have az0 := hA5.frozen 0
      have az1 := hA5.frozen 1
      have az2 := hA5.frozen 2
      go_wp2_with fail
      with_reducible refine (HRR.out _).mono ?_
      rintro e w6 ⟨rfl, hb6⟩
      have hA6 := hA5.after hb6
      have hbel6 := bl_trans hbel5 hb6
      clear hA5 hbel5 a0 a1 a2 az0 az1 az2
      obtain ⟨a0, a1, a2, _⟩ := blk_adr hA6
      have az0 := hA6.frozen 0
      have az1 := hA6.frozen 1
      have az2 := hA6.frozen 2
      have al := hA6.lt
      go_wp2_with fail
      go_ret
      exact ⟨rfl, hbel6⟩
    · obtain ⟨k1, k2, k3⟩ := of_back (s := s) (v := true) hsz
      have HO := Lib.hid (fun w => aofbytes_ok s 16 w hsz (by omega))
      have h16 : ((16 : Nat) == 16) = true := by decide
      rw [h16] at HO
      have HB := Lib.hid (fun w => bytes_c true (valB (nums s)) w k3 k2)
      rw [k1] at HB
      have hsI : (s.size : Int) = 16 := by omega
      clear k1 k2 k3 h16
      generalize valB (nums s) = V at *
      simp only [AddrV_eq, AddrC] at *
      go_enter Tryd.func5, Tryd.ntmps5
      go_wp2_with fail
      have hA : Blk (w.alloc (Obj.cells #[.bool v, .int .u64 (hi a), .int .u64 (lo a)] 26)) (w.heap.size) 26 (AddrC v a) := (Blk.new' _ _ _ _ (by simp) : Blk (w.alloc (Obj.cells #[.bool v, .int .u64 (hi a), .int .u64 (lo a)] 26)) (w.heap.size) 26 (AddrC v a))
      have hbel : Below w.heap.size w (w.alloc (Obj.cells #[.bool v, .int .u64 (hi a), .int .u64 (lo a)] 26)) := (by repeat (first | (with_reducible exact Below.refl _ _) | (with_reducible assumption) | (with_reducible refine bl_alloc ?_ _) | (with_reducible refine bl_drew ?_) | (with_reducible refine bl_drewN ?_ _) | (with_reducible refine bl_set ?_ (by first | (simp; done) | (simp; omega)) _) | (with_reducible refine bl_trans ?_ ‹_›)))
      replace hG := hG.after hbel
      have hsz : (w.alloc (Obj.cells #[.bool v, .int .u64 (hi a), .int .u64 (lo a)] 26)).heap.size = w.heap.size + 1 := by simp
      generalize w.alloc (Obj.cells #[.bool v, .int .u64 (hi a), .int .u64 (lo a)] 26) = w0 at *
      with_reducible refine (HAW.out _ hG).mono ?_
      rintro e w1 ⟨rfl, hb⟩
      (try clear a0 a1 a2 az0 az1 az2 az3)
      replace hA := hA.after hb
      obtain ⟨a0, a1, a2, _⟩ := blk_adr hA
      have az0 := hA.frozen 0
      have az1 := hA.frozen 1
      have az2 := hA.frozen 2
      (try clear al al1 al2)
      have al := hA.lt
      have al1 := Nat.lt_succ_of_lt al
      have al2 := Nat.lt_succ_of_lt al1
      try simp only [Nat.succ_eq_add_one] at al1 al2
      replace hG := hG.after hb
      replace hbel := bl_trans hbel hb
      clear hb
      go_wp2_with fail
      with_reducible refine (HO.out _).mono ?_
      rintro e w2 ⟨rfl, hb⟩
      (try clear a0 a1 a2 az0 az1 az2 az3)
      replace hA := hA.after hb
      obtain ⟨a0, a1, a2, _⟩ := blk_adr hA
      have az0 := hA.frozen 0
      have az1 := hA.frozen 1
      have az2 := hA.frozen 2
      (try clear al al1 al2)
      have al := hA.lt
      have al1 := Nat.lt_succ_of_lt al
      have al2 := Nat.lt_succ_of_lt al1
      try simp only [Nat.succ_eq_add_one] at al1 al2
      replace hG := hG.after hb
      replace hbel := bl_trans hbel hb
      clear hb
      go_wp2_with fail
      with_reducible refine (HB.out _).mono ?_
      rintro e w3 ⟨rfl, hb⟩
      have hB' : Blk w3 w2.heap.size 26 #[.bool true, .int .u64 (hi V), .int .u64 (lo V)] := (by repeat (first | (with_reducible assumption) | (with_reducible refine blk_fill (u := .int .u64 0) (v := .int .u64 0) ?_) | (with_reducible refine Blk.drew ?_) | (with_reducible refine Blk.new' _ _ _ _ (by first | (with_reducible rfl) | (simp; done))) | (with_reducible refine Blk.alloc ?_ _) | (with_reducible refine Blk.after ?_ ‹_›) | (with_reducible refine Blk.far ?_ (by first | (simp; done) | (simp; omega)) _)))
      have hB : Blk w3 w2.heap.size 26 (AddrC true V) := hB'
      have hbn : Below w2.heap.size w2 w3 := (by repeat (first | (with_reducible exact Below.refl _ _) | (with_reducible assumption) | (with_reducible refine bl_alloc ?_ _) | (with_reducible refine bl_drew ?_) | (with_reducible refine bl_drewN ?_ _) | (with_reducible refine bl_set ?_ (by first | (simp; done) | (simp; omega)) _) | (with_reducible refine bl_trans ?_ ‹_›)))
      replace hA := hA.after hbn
      replace hbel := bl_trans hbel hbn
      clear hB' hb hbn a0 a1 a2 az0 az1 az2
      obtain ⟨a0, a1, a2, _⟩ := blk_adr hA
      have az0 := hA.frozen 0
      have az1 := hA.frozen 1
      have az2 := hA.frozen 2
      obtain ⟨b0, b1, b2, _⟩ := blk_adr hB
      have bz0 := hB.frozen 0
      have bz1 := hB.frozen 1
      have bz2 := hB.frozen 2
      go_wp2_with fail
      with_reducible refine (HA1.out _).mono ?_
      rintro e w5 ⟨rfl, hb5⟩
      have hA5 : Blk w5 w.heap.size 26 (AddrC v a) := (by repeat (first | (with_reducible assumption) | (with_reducible refine blk_fill (u := .int .u64 0) (v := .int .u64 0) ?_) | (with_reducible refine Blk.drew ?_) | (with_reducible refine Blk.new' _ _ _ _ (by first | (with_reducible rfl) | (simp; done))) | (with_reducible refine Blk.alloc ?_ _) | (with_reducible refine Blk.after ?_ ‹_›) | (with_reducible refine Blk.far ?_ (by first | (simp; done) | (simp; omega)) _)))
      have hbel5 : Below w.heap.size w w5 := (by repeat (first | (with_reducible exact Below.refl _ _) | (with_reducible assumption) | (with_reducible refine bl_alloc ?_ _) | (with_reducible refine bl_drew ?_) | (with_reducible refine bl_drewN ?_ _) | (with_reducible refine bl_set ?_ (by first | (simp; done) | (simp; omega)) _) | (with_reducible refine bl_trans ?_ ‹_›)))
      clear hA hbel a0 a1 a2 az0 az1 az2
      obtain ⟨a0, a1, a2, _⟩ := blk_adr hA5
      have az0 := hA5.frozen 0
      have az1 := hA5.frozen 1
      have az2 := hA5.frozen 2
      go_wp2_with fail
      with_reducible refine (HRR.out _).mono ?_
      rintro e w6 ⟨rfl, hb6⟩
      have hA6 := hA5.after hb6
      have hbel6 := bl_trans hbel5 hb6
      clear hA5 hbel5 a0 a1 a2 az0 az1 az2
      obtain ⟨a0, a1, a2, _⟩ := blk_adr hA6
      have az0 := hA6.frozen 0
      have az1 := hA6.frozen 1
      have az2 := hA6.frozen 2
      have al := hA6.lt
      go_wp2_with fail
      go_ret
      exact ⟨rfl, hbel6⟩
    · have HO := Lib.hid (fun w => aofbytes_bad s w (by omega) (fun h => hsz (.inl h)) (fun h => hsz (.inr h)))
      have e4 : ((s.size : Int) == 4) = false := by simp; omega
      have e16 : ((s.size : Int) == 16) = false := by simp; omega
      clear hsz
      simp only [AddrV_eq, AddrC] at *
      simp only [hi_zero, lo_zero] at HO
      go_enter Tryd.func5, Tryd.ntmps5
      go_wp2_with fail
      have hA : Blk (w.alloc (Obj.cells #[.bool v, .int .u64 (hi a), .int .u64 (lo a)] 26)) (w.heap.size) 26 (AddrC v a) := (Blk.new' _ _ _ _ (by simp) : Blk (w.alloc (Obj.cells #[.bool v, .int .u64 (hi a), .int .u64 (lo a)] 26)) (w.heap.size) 26 (AddrC v a))
      have hbel : Below w.heap.size w (w.alloc (Obj.cells #[.bool v, .int .u64 (hi a), .int .u64 (lo a)] 26)) := (by repeat (first | (with_reducible exact Below.refl _ _) | (with_reducible assumption) | (with_reducible refine bl_alloc ?_ _) | (with_reducible refine bl_drew ?_) | (with_reducible refine bl_drewN ?_ _) | (with_reducible refine bl_set ?_ (by first | (simp; done) | (simp; omega)) _) | (with_reducible refine bl_trans ?_ ‹_›)))
      replace hG := hG.after hbel
      have hsz : (w.alloc (Obj.cells #[.bool v, .int .u64 (hi a), .int .u64 (lo a)] 26)).heap.size = w.heap.size + 1 := by simp
      generalize w.alloc (Obj.cells #[.bool v, .int .u64 (hi a), .int .u64 (lo a)] 26) = w0 at *
      with_reducible refine (HAW.out _ hG).mono ?_
      rintro e w1 ⟨rfl, hb⟩
      (try clear a0 a1 a2 az0 az1 az2 az3)
      replace hA := hA.after hb
      obtain ⟨a0, a1, a2, _⟩ := blk_adr hA
      have az0 := hA.frozen 0
      have az1 := hA.frozen 1
      have az2 := hA.frozen 2
      (try clear al al1 al2)
      have al := hA.lt
      have al1 := Nat.lt_succ_of_lt al
      have al2 := Nat.lt_succ_of_lt al1
      try simp only [Nat.succ_eq_add_one] at al1 al2
      replace hG := hG.after hb
      replace hbel := bl_trans hbel hb
      clear hb
      go_wp2_with fail
      with_reducible refine (HO.out _).mono ?_
      rintro e w2 ⟨rfl, hb⟩
      (try clear a0 a1 a2 az0 az1 az2 az3)
      replace hA := hA.after hb
      obtain ⟨a0, a1, a2, _⟩ := blk_adr hA
      have az0 := hA.frozen 0
      have az1 := hA.frozen 1
      have az2 := hA.frozen 2
      (try clear al al1 al2)
      have al := hA.lt
      have al1 := Nat.lt_succ_of_lt al
      have al2 := Nat.lt_succ_of_lt al1
      try simp only [Nat.succ_eq_add_one] at al1 al2
      replace hG := hG.after hb
      replace hbel := bl_trans hbel hb
      clear hb
      go_wp2_with fail
      with_reducible refine (HA1.out _).mono ?_
      rintro e w5 ⟨rfl, hb5⟩
      have hA5 : Blk w5 w.heap.size 26 (AddrC v a) := (by repeat (first | (with_reducible assumption) | (with_reducible refine blk_fill (u := .int .u64 0) (v := .int .u64 0) ?_) | (with_reducible refine Blk.drew ?_) | (with_reducible refine Blk.new' _ _ _ _ (by first | (with_reducible rfl) | (simp; done))) | (with_reducible refine Blk.alloc ?_ _) | (with_reducible refine Blk.after ?_ ‹_›) | (with_reducible refine Blk.far ?_ (by first | (simp; done) | (simp; omega)) _)))
      have hbel5 : Below w.heap.size w w5 := (by repeat (first | (with_reducible exact Below.refl _ _) | (with_reducible assumption) | (with_reducible refine bl_alloc ?_ _) | (with_reducible refine bl_drew ?_) | (with_reducible refine bl_drewN ?_ _) | (with_reducible refine bl_set ?_ (by first | (simp; done) | (simp; omega)) _) | (with_reducible refine bl_trans ?_ ‹_›)))
      clear hA hbel a0 a1 a2 az0 az1 az2
      obtain ⟨a0, a1, a2, _⟩ := blk_adr hA5
      have az0 := hA5.frozen 0
      have az1 := hA5.frozen 1
      have az2 := hA5.frozen 2
      go_wp2_with fail
      with_reducible refine (HRR.out _).mono ?_
      rintro e w6 ⟨rfl, hb6⟩
      have hA6 := hA5.after hb6
      have hbel6 := bl_trans hbel5 hb6
      clear hA5 hbel5 a0 a1 a2 az0 az1 az2
      obtain ⟨a0, a1, a2, _⟩ := blk_adr hA6
      have az0 := hA6.frozen 0
      have az1 := hA6.frozen 1
      have az2 := hA6.frozen 2
      have al := hA6.lt
      go_wp2_with fail
      go_ret
      exact ⟨rfl, hbel6⟩
end Go.Proofs.YtgdgklibilddgaaDoor
