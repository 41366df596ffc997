/- Addresses: the walk of the law of the order. -/
import Derived.Test.YtgdgklibilddgaaGreatDoorAdMr
import Derived.Test.YtgdgklibilddgaaGreatDoorAeB
namespace Go.Proofs.YtgdgklibilddgaaGreatDoor
open Go.RowKit

/-- what a sum answers, as an address and a number -/
theorem plusV_form (v : Bool) (a n : Nat) : ∃ (u : Bool) (b : Nat) (e : Int), plusV v a n = .tuple #[AddrV u b, .int .i64 e] := by
  unfold plusV
  split
  · split
    · exact ⟨_, _, _, rfl⟩
    · exact ⟨_, _, _, rfl⟩
  · exact ⟨_, _, _, rfl⟩
theorem minusV_form (v : Bool) (a : Nat) (u : Bool) (b : Nat) : ∃ (m : Nat) (e : Int), minusV v a u b = .tuple #[numV m, .int .i64 e] := by
  unfold minusV
  split
  · split
    · exact ⟨_, _, rfl⟩
    · exact ⟨_, _, rfl⟩
  · exact ⟨_, _, rfl⟩
set_option maxRecDepth 100000 in
set_option maxHeartbeats 3200000 in
theorem addrOrders_walk (v : Bool) (a : Nat) (u : Bool) (b n : Nat) (w : World) (ha : a < 340282366920938463463374607431768211456) (hb : b < 340282366920938463463374607431768211456) (hn : n < 340282366920938463463374607431768211456) (hG : Glob w) :
    Calls Tryz.prog 3 #[AddrV v a, AddrV u b, numV n] w fun e w' => e = .returned (.bool true) ∧ Below w.heap.size w w' := by
  have HAW := Lib.hid (fun w hG => awake02_c w hG)
  have HP := Lib.hid (fun w => plus_c v a n w ha hn)
  have HPR := Lib.hid (fun w => rplus_c v a n w ha hn)
  have HM := Lib.hid (fun w => minus_c v a u b w ha hb)
  have HMR := Lib.hid (fun w => rminus_c v a u b w ha hb)
  have H1 := Lib.hid (fun w => right_c v a w ha)
  have H2 := Lib.hid (fun w => rright_c v a w ha)
  have H3 := Lib.hid (fun w => acmp_c v a u b w ha hb)
  have H4 := Lib.hid (fun w => rcmp_c v a u b w ha hb)
  have H5 := Lib.hid (fun w => width_c v a w)
  have H6 := Lib.hid (fun w => rwidth_c v a w)
  obtain ⟨pu, pb, pe, hpv⟩ := plusV_form v a n
  obtain ⟨mm, me, hmv⟩ := minusV_form v a u b
  rw [hpv] at HP HPR
  rw [hmv] at HM HMR
  generalize rightB v a = rb at *
  generalize cmpA v a u b = cb at *
  generalize (widthN v : Int) = wb at *
  clear hpv hmv
  simp only [AddrV_eq, AddrC] at *
  unfold numV at *
  go_enter Tryz.func3, Tryz.ntmps3
  go_wp2_with fail
  have hA : Blk (((w.alloc (Obj.cells #[.bool v, .int .u64 (hi a), .int .u64 (lo a)] 26)).alloc (Obj.cells #[.bool u, .int .u64 (hi b), .int .u64 (lo b)] 26)).alloc (Obj.cells #[.int .u64 (hi n), .int .u64 (lo n)] 24)) (w.heap.size) 26 (AddrC v a) := (((Blk.new' _ _ _ _ (by simp) : Blk (w.alloc (Obj.cells #[.bool v, .int .u64 (hi a), .int .u64 (lo a)] 26)) (w.heap.size) 26 (AddrC v a))).alloc _).alloc _
  have hB : Blk (((w.alloc (Obj.cells #[.bool v, .int .u64 (hi a), .int .u64 (lo a)] 26)).alloc (Obj.cells #[.bool u, .int .u64 (hi b), .int .u64 (lo b)] 26)).alloc (Obj.cells #[.int .u64 (hi n), .int .u64 (lo n)] 24)) (w.heap.size + 1) 26 (AddrC u b) := ((Blk.new' _ _ _ _ (by simp) : Blk ((w.alloc (Obj.cells #[.bool v, .int .u64 (hi a), .int .u64 (lo a)] 26)).alloc (Obj.cells #[.bool u, .int .u64 (hi b), .int .u64 (lo b)] 26)) (w.heap.size + 1) 26 (AddrC u b))).alloc _
  have hN : Blk (((w.alloc (Obj.cells #[.bool v, .int .u64 (hi a), .int .u64 (lo a)] 26)).alloc (Obj.cells #[.bool u, .int .u64 (hi b), .int .u64 (lo b)] 26)).alloc (Obj.cells #[.int .u64 (hi n), .int .u64 (lo n)] 24)) (w.heap.size + 1 + 1) 24 #[.int .u64 (hi n), .int .u64 (lo n)] := (Blk.new' _ _ _ _ (by simp) : Blk (((w.alloc (Obj.cells #[.bool v, .int .u64 (hi a), .int .u64 (lo a)] 26)).alloc (Obj.cells #[.bool u, .int .u64 (hi b), .int .u64 (lo b)] 26)).alloc (Obj.cells #[.int .u64 (hi n), .int .u64 (lo n)] 24)) (w.heap.size + 1 + 1) 24 #[.int .u64 (hi n), .int .u64 (lo n)])
  have hbel : Below w.heap.size w (((w.alloc (Obj.cells #[.bool v, .int .u64 (hi a), .int .u64 (lo a)] 26)).alloc (Obj.cells #[.bool u, .int .u64 (hi b), .int .u64 (lo b)] 26)).alloc (Obj.cells #[.int .u64 (hi n), .int .u64 (lo n)] 24)) := (by repeat (first | (with_reducible exact Below.refl _ _) | (with_reducible assumption) | (with_reducible refine bl_alloc ?_ _) | (with_reducible refine bl_drew ?_) | (with_reducible refine bl_drewN ?_ _) | (with_reducible refine bl_set ?_ (by first | (simp; done) | (simp; omega)) _) | (with_reducible refine bl_trans ?_ ‹_›)))
  replace hG := hG.after hbel
  have hsz : (((w.alloc (Obj.cells #[.bool v, .int .u64 (hi a), .int .u64 (lo a)] 26)).alloc (Obj.cells #[.bool u, .int .u64 (hi b), .int .u64 (lo b)] 26)).alloc (Obj.cells #[.int .u64 (hi n), .int .u64 (lo n)] 24)).heap.size = w.heap.size + 1 + 1 + 1 := by simp
  generalize ((w.alloc (Obj.cells #[.bool v, .int .u64 (hi a), .int .u64 (lo a)] 26)).alloc (Obj.cells #[.bool u, .int .u64 (hi b), .int .u64 (lo b)] 26)).alloc (Obj.cells #[.int .u64 (hi n), .int .u64 (lo n)] 24) = w0 at *
  obtain ⟨gn, gnE⟩ : ∃ g, g = w.heap.size + 1 + 1 := ⟨_, rfl⟩
  rw [← gnE] at hN ⊢
  obtain ⟨gb, gbE⟩ : ∃ g, g = w.heap.size + 1 := ⟨_, rfl⟩
  rw [← gbE] at hB ⊢
  have hd1 : w.heap.size < gb := by omega
  have hd2 : gb < gn := by omega
  have hd3 : w.heap.size < gn := by omega
  clear hsz gnE gbE
  with_reducible refine (HAW.out _ hG).mono ?_
  rintro e w1 ⟨rfl, hb⟩
  (try clear a0 a1 a2 az0 az1 az2 az3)
  replace hA := hA.after hb
  obtain ⟨a0, a1, a2, _⟩ := blk_adr hA
  have az0 := hA.frozen 0
  have az1 := hA.frozen 1
  have az2 := hA.frozen 2
  (try clear al al1 al2)
  have al := hA.lt
  have al1 := Nat.lt_succ_of_lt al
  have al2 := Nat.lt_succ_of_lt al1
  try simp only [Nat.succ_eq_add_one] at al1 al2
  (try clear b0 b1 b2 bz0 bz1 bz2 bz3)
  replace hB := hB.after hb
  obtain ⟨b0, b1, b2, _⟩ := blk_adr hB
  have bz0 := hB.frozen 0
  have bz1 := hB.frozen 1
  have bz2 := hB.frozen 2
  (try clear bl bl1 bl2)
  have bl := hB.lt
  have bl1 := Nat.lt_succ_of_lt bl
  have bl2 := Nat.lt_succ_of_lt bl1
  try simp only [Nat.succ_eq_add_one] at bl1 bl2
  (try clear n0 n1 nz0 nz1)
  replace hN := hN.after hb
  obtain ⟨n0, n1, _⟩ := blk_two hN
  have nz0 := hN.frozen 0
  have nz1 := hN.frozen 1
  (try clear nl nl1 nl2)
  have nl := hN.lt
  have nl1 := Nat.lt_succ_of_lt nl
  have nl2 := Nat.lt_succ_of_lt nl1
  try simp only [Nat.succ_eq_add_one] at nl1 nl2
  replace hbel := bl_trans hbel hb
  clear hb
  go_wp2_with fail
  with_reducible refine (HP.out _).mono ?_
  rintro e w2 ⟨rfl, hb⟩
  (try clear a0 a1 a2 az0 az1 az2 az3)
  replace hA := hA.after hb
  obtain ⟨a0, a1, a2, _⟩ := blk_adr hA
  have az0 := hA.frozen 0
  have az1 := hA.frozen 1
  have az2 := hA.frozen 2
  (try clear al al1 al2)
  have al := hA.lt
  have al1 := Nat.lt_succ_of_lt al
  have al2 := Nat.lt_succ_of_lt al1
  try simp only [Nat.succ_eq_add_one] at al1 al2
  (try clear b0 b1 b2 bz0 bz1 bz2 bz3)
  replace hB := hB.after hb
  obtain ⟨b0, b1, b2, _⟩ := blk_adr hB
  have bz0 := hB.frozen 0
  have bz1 := hB.frozen 1
  have bz2 := hB.frozen 2
  (try clear bl bl1 bl2)
  have bl := hB.lt
  have bl1 := Nat.lt_succ_of_lt bl
  have bl2 := Nat.lt_succ_of_lt bl1
  try simp only [Nat.succ_eq_add_one] at bl1 bl2
  (try clear n0 n1 nz0 nz1)
  replace hN := hN.after hb
  obtain ⟨n0, n1, _⟩ := blk_two hN
  have nz0 := hN.frozen 0
  have nz1 := hN.frozen 1
  (try clear nl nl1 nl2)
  have nl := hN.lt
  have nl1 := Nat.lt_succ_of_lt nl
  have nl2 := Nat.lt_succ_of_lt nl1
  try simp only [Nat.succ_eq_add_one] at nl1 nl2
  replace hbel := bl_trans hbel hb
  clear hb
  go_wp2_with fail
  with_reducible refine (HPR.out _).mono ?_
  rintro e w3 ⟨rfl, hb3⟩
  have hX' : Blk w3 w2.heap.size 26 #[.bool pu, .int .u64 (hi pb), .int .u64 (lo pb)] := (by repeat (first | (with_reducible assumption) | (with_reducible refine blk_fill (u := .int .u64 0) (v := .int .u64 0) ?_) | (with_reducible refine Blk.drew ?_) | (with_reducible refine Blk.new' _ _ _ _ (by first | (with_reducible rfl) | (simp; done))) | (with_reducible refine Blk.alloc ?_ _) | (with_reducible refine Blk.after ?_ ‹_›) | (with_reducible refine Blk.far ?_ (by first | (simp; done) | (simp; omega)) _)))
  have hX : Blk w3 w2.heap.size 26 (AddrC pu pb) := hX'
  have hbn : Below w2.heap.size w2 w3 := (by repeat (first | (with_reducible exact Below.refl _ _) | (with_reducible assumption) | (with_reducible refine bl_alloc ?_ _) | (with_reducible refine bl_drew ?_) | (with_reducible refine bl_drewN ?_ _) | (with_reducible refine bl_set ?_ (by first | (simp; done) | (simp; omega)) _) | (with_reducible refine bl_trans ?_ ‹_›)))
  obtain ⟨gx, hgx⟩ : ∃ g, g = w2.heap.size := ⟨_, rfl⟩
  have hd4 : gn < gx := by rw [hgx]; exact nl
  rw [← hgx] at hX ⊢
  have hlx : gx < w3.heap.size := hX.lt
  replace hA := hA.after hbn
  replace hB := hB.after hbn
  replace hN := hN.after hbn
  replace hbel := bl_trans hbel hbn
  clear hX' hb3 hbn a0 a1 a2 az0 az1 az2 b0 b1 b2 bz0 bz1 bz2 n0 n1 nz0 nz1 al al1 al2 bl bl1 bl2 nl nl1 nl2 hgx
  obtain ⟨a0, a1, a2, _⟩ := blk_adr hA
  have az0 := hA.frozen 0
  have az1 := hA.frozen 1
  have az2 := hA.frozen 2
  obtain ⟨b0, b1, b2, _⟩ := blk_adr hB
  have bz0 := hB.frozen 0
  have bz1 := hB.frozen 1
  have bz2 := hB.frozen 2
  obtain ⟨n0, n1, _⟩ := blk_two hN
  have nz0 := hN.frozen 0
  have nz1 := hN.frozen 1
  obtain ⟨x0, x1, x2, _⟩ := blk_adr hX
  have xz0 := hX.frozen 0
  have xz1 := hX.frozen 1
  have xz2 := hX.frozen 2
  have al := hA.lt
  have bl := hB.lt
  have nl := hN.lt
  have xl := hX.lt
  have al1 := Nat.lt_succ_of_lt al
  have bl1 := Nat.lt_succ_of_lt bl
  go_wp2_with fail
  with_reducible refine (HM.out _).mono ?_
  rintro e w4 ⟨rfl, hbq⟩
  have hX' : Blk w4 w3.heap.size 26 #[.bool pu, .int .u64 (hi pb), .int .u64 (lo pb)] := (by repeat (first | (with_reducible assumption) | (with_reducible refine blk_fill (u := .int .u64 0) (v := .int .u64 0) ?_) | (with_reducible refine Blk.drew ?_) | (with_reducible refine Blk.new' _ _ _ _ (by first | (with_reducible rfl) | (simp; done))) | (with_reducible refine Blk.alloc ?_ _) | (with_reducible refine Blk.after ?_ ‹_›) | (with_reducible refine Blk.far ?_ (by first | (simp; done) | (simp; omega)) _)))
  have hY : Blk w4 w3.heap.size 26 (AddrC pu pb) := hX'
  have hbn : Below w3.heap.size w3 w4 := (by repeat (first | (with_reducible exact Below.refl _ _) | (with_reducible assumption) | (with_reducible refine bl_alloc ?_ _) | (with_reducible refine bl_drew ?_) | (with_reducible refine bl_drewN ?_ _) | (with_reducible refine bl_set ?_ (by first | (simp; done) | (simp; omega)) _) | (with_reducible refine bl_trans ?_ ‹_›)))
  obtain ⟨gy, hgE⟩ : ∃ g, g = w3.heap.size := ⟨_, rfl⟩
  have hd_a_gy := hA.lt
  rw [← hgE] at hd_a_gy
  have hd_b_gy := hB.lt
  rw [← hgE] at hd_b_gy
  have hd_x_gy := hX.lt
  rw [← hgE] at hd_x_gy
  rw [← hgE] at hY ⊢
  replace hA := hA.after hbn
  replace hB := hB.after hbn
  replace hX := hX.after hbn
  replace hbel := bl_trans hbel hbn
  clear hX' hbq hbn hgE
  (try clear a0 a1 a2 az0 az1 az2)
  (try clear al al1 al2)
  (try clear b0 b1 b2 bz0 bz1 bz2)
  (try clear bl bl1 bl2)
  (try clear x0 x1 x2 xz0 xz1 xz2)
  (try clear xl xl1 xl2)
  obtain ⟨a0, a1, a2, _⟩ := blk_adr hA
  have az0 := hA.frozen 0
  have az1 := hA.frozen 1
  have az2 := hA.frozen 2
  obtain ⟨b0, b1, b2, _⟩ := blk_adr hB
  have bz0 := hB.frozen 0
  have bz1 := hB.frozen 1
  have bz2 := hB.frozen 2
  obtain ⟨x0, x1, x2, _⟩ := blk_adr hX
  have xz0 := hX.frozen 0
  have xz1 := hX.frozen 1
  have xz2 := hX.frozen 2
  obtain ⟨y0, y1, y2, _⟩ := blk_adr hY
  have yz0 := hY.frozen 0
  have yz1 := hY.frozen 1
  have yz2 := hY.frozen 2
  have al := hA.lt
  have al1 := Nat.lt_succ_of_lt al
  have bl := hB.lt
  have bl1 := Nat.lt_succ_of_lt bl
  have xl := hX.lt
  have xl1 := Nat.lt_succ_of_lt xl
  have yl := hY.lt
  have yl1 := Nat.lt_succ_of_lt yl
  go_wp2_with fail
  with_reducible refine (HMR.out _).mono ?_
  rintro e w5 ⟨rfl, hbq⟩
  have hX' : Blk w5 w4.heap.size 24 #[.int .u64 (hi mm), .int .u64 (lo mm)] := (by repeat (first | (with_reducible assumption) | (with_reducible refine blk_fill (u := .int .u64 0) (v := .int .u64 0) ?_) | (with_reducible refine Blk.drew ?_) | (with_reducible refine Blk.new' _ _ _ _ (by first | (with_reducible rfl) | (simp; done))) | (with_reducible refine Blk.alloc ?_ _) | (with_reducible refine Blk.after ?_ ‹_›) | (with_reducible refine Blk.far ?_ (by first | (simp; done) | (simp; omega)) _)))
  have hM : Blk w5 w4.heap.size 24 #[.int .u64 (hi mm), .int .u64 (lo mm)] := hX'
  have hbn : Below w4.heap.size w4 w5 := (by repeat (first | (with_reducible exact Below.refl _ _) | (with_reducible assumption) | (with_reducible refine bl_alloc ?_ _) | (with_reducible refine bl_drew ?_) | (with_reducible refine bl_drewN ?_ _) | (with_reducible refine bl_set ?_ (by first | (simp; done) | (simp; omega)) _) | (with_reducible refine bl_trans ?_ ‹_›)))
  obtain ⟨gm, hgE⟩ : ∃ g, g = w4.heap.size := ⟨_, rfl⟩
  have hd_a_gm := hA.lt
  rw [← hgE] at hd_a_gm
  have hd_b_gm := hB.lt
  rw [← hgE] at hd_b_gm
  have hd_x_gm := hX.lt
  rw [← hgE] at hd_x_gm
  have hd_y_gm := hY.lt
  rw [← hgE] at hd_y_gm
  rw [← hgE] at hM ⊢
  replace hA := hA.after hbn
  replace hB := hB.after hbn
  replace hX := hX.after hbn
  replace hY := hY.after hbn
  replace hbel := bl_trans hbel hbn
  clear hX' hbq hbn hgE
  (try clear a0 a1 a2 az0 az1 az2)
  (try clear al al1 al2)
  (try clear b0 b1 b2 bz0 bz1 bz2)
  (try clear bl bl1 bl2)
  (try clear x0 x1 x2 xz0 xz1 xz2)
  (try clear xl xl1 xl2)
  (try clear y0 y1 y2 yz0 yz1 yz2)
  (try clear yl yl1 yl2)
  obtain ⟨a0, a1, a2, _⟩ := blk_adr hA
  have az0 := hA.frozen 0
  have az1 := hA.frozen 1
  have az2 := hA.frozen 2
  obtain ⟨b0, b1, b2, _⟩ := blk_adr hB
  have bz0 := hB.frozen 0
  have bz1 := hB.frozen 1
  have bz2 := hB.frozen 2
  obtain ⟨x0, x1, x2, _⟩ := blk_adr hX
  have xz0 := hX.frozen 0
  have xz1 := hX.frozen 1
  have xz2 := hX.frozen 2
  obtain ⟨y0, y1, y2, _⟩ := blk_adr hY
  have yz0 := hY.frozen 0
  have yz1 := hY.frozen 1
  have yz2 := hY.frozen 2
  obtain ⟨m0, m1, _⟩ := blk_two hM
  have mz0 := hM.frozen 0
  have mz1 := hM.frozen 1
  have al := hA.lt
  have al1 := Nat.lt_succ_of_lt al
  have bl := hB.lt
  have bl1 := Nat.lt_succ_of_lt bl
  have xl := hX.lt
  have xl1 := Nat.lt_succ_of_lt xl
  have yl := hY.lt
  have yl1 := Nat.lt_succ_of_lt yl
  have ml := hM.lt
  have ml1 := Nat.lt_succ_of_lt ml
  go_wp2_with fail
  have hK : Blk (w5.alloc (Obj.cells #[.int .u64 (hi mm), .int .u64 (lo mm)] 24)) (w5.heap.size) 24 #[.int .u64 (hi mm), .int .u64 (lo mm)] := (Blk.new' _ _ _ _ (by simp) : Blk (w5.alloc (Obj.cells #[.int .u64 (hi mm), .int .u64 (lo mm)] 24)) (w5.heap.size) 24 #[.int .u64 (hi mm), .int .u64 (lo mm)])
  have hbn : Below w5.heap.size w5 (w5.alloc (Obj.cells #[.int .u64 (hi mm), .int .u64 (lo mm)] 24)) := (by repeat (first | (with_reducible exact Below.refl _ _) | (with_reducible assumption) | (with_reducible refine bl_alloc ?_ _) | (with_reducible refine bl_drew ?_) | (with_reducible refine bl_drewN ?_ _) | (with_reducible refine bl_set ?_ (by first | (simp; done) | (simp; omega)) _) | (with_reducible refine bl_trans ?_ ‹_›)))
  replace hA := hA.after hbn
  replace hB := hB.after hbn
  replace hX := hX.after hbn
  replace hY := hY.after hbn
  replace hM := hM.after hbn
  replace hbel := bl_trans hbel hbn
  clear hbn
  (try clear hsz)
  have hsz : (w5.alloc (Obj.cells #[.int .u64 (hi mm), .int .u64 (lo mm)] 24)).heap.size = w5.heap.size + 1 := by simp
  generalize w5.alloc (Obj.cells #[.int .u64 (hi mm), .int .u64 (lo mm)] 24) = w6 at *
  obtain ⟨gk, gkE⟩ : ∃ g, g = w5.heap.size := ⟨_, rfl⟩
  rw [← gkE] at hK ⊢
  clear gkE a0 a1 a2 az0 az1 az2 b0 b1 b2 bz0 bz1 bz2 x0 x1 x2 xz0 xz1 xz2 y0 y1 y2 yz0 yz1 yz2 m0 m1 mz0 mz1
  have hbeld : Below w.heap.size w w6.drew := (by repeat (first | (with_reducible exact Below.refl _ _) | (with_reducible assumption) | (with_reducible refine bl_alloc ?_ _) | (with_reducible refine bl_drew ?_) | (with_reducible refine bl_drewN ?_ _) | (with_reducible refine bl_set ?_ (by first | (simp; done) | (simp; omega)) _) | (with_reducible refine bl_trans ?_ ‹_›)))
  refine wp_region_held_drew (S := fun w' => (w'.cell? ⟨w.heap.size, 0, none⟩ = some (.bool v) ∧ w'.cell? ⟨w.heap.size, 1, none⟩ = some (.int .u64 (hi a)) ∧ w'.cell? ⟨w.heap.size, 2, none⟩ = some (.int .u64 (lo a)) ∧ Blk w' w.heap.size 26 (AddrC v a)) ∧ (w'.cell? ⟨gb, 0, none⟩ = some (.bool u) ∧ w'.cell? ⟨gb, 1, none⟩ = some (.int .u64 (hi b)) ∧ w'.cell? ⟨gb, 2, none⟩ = some (.int .u64 (lo b)) ∧ Blk w' gb 26 (AddrC u b)) ∧ (w'.cell? ⟨gx, 0, none⟩ = some (.bool pu) ∧ w'.cell? ⟨gx, 1, none⟩ = some (.int .u64 (hi pb)) ∧ w'.cell? ⟨gx, 2, none⟩ = some (.int .u64 (lo pb)) ∧ Blk w' gx 26 (AddrC pu pb)) ∧ (w'.cell? ⟨gy, 0, none⟩ = some (.bool pu) ∧ w'.cell? ⟨gy, 1, none⟩ = some (.int .u64 (hi pb)) ∧ w'.cell? ⟨gy, 2, none⟩ = some (.int .u64 (lo pb)) ∧ Blk w' gy 26 (AddrC pu pb)) ∧ (w'.cell? ⟨gm, 0, none⟩ = some (.int .u64 (hi mm)) ∧ w'.cell? ⟨gm, 1, none⟩ = some (.int .u64 (lo mm)) ∧ Blk w' gm 24 #[.int .u64 (hi mm), .int .u64 (lo mm)]) ∧ (w'.cell? ⟨gk, 0, none⟩ = some (.int .u64 (hi mm)) ∧ w'.cell? ⟨gk, 1, none⟩ = some (.int .u64 (lo mm)) ∧ Blk w' gk 24 #[.int .u64 (hi mm), .int .u64 (lo mm)]) ∧ Below w.heap.size w w') (by kernel_rfl) ?_ (fun hHeld => ?_)
  · exact ⟨blk_adr (by repeat (first | (with_reducible assumption) | (with_reducible refine blk_fill (u := .int .u64 0) (v := .int .u64 0) ?_) | (with_reducible refine Blk.drew ?_) | (with_reducible refine Blk.new' _ _ _ _ (by first | (with_reducible rfl) | (simp; done))) | (with_reducible refine Blk.alloc ?_ _) | (with_reducible refine Blk.after ?_ ‹_›) | (with_reducible refine Blk.far ?_ (by first | (simp; done) | (simp; omega)) _))), blk_adr (by repeat (first | (with_reducible assumption) | (with_reducible refine blk_fill (u := .int .u64 0) (v := .int .u64 0) ?_) | (with_reducible refine Blk.drew ?_) | (with_reducible refine Blk.new' _ _ _ _ (by first | (with_reducible rfl) | (simp; done))) | (with_reducible refine Blk.alloc ?_ _) | (with_reducible refine Blk.after ?_ ‹_›) | (with_reducible refine Blk.far ?_ (by first | (simp; done) | (simp; omega)) _))), blk_adr (by repeat (first | (with_reducible assumption) | (with_reducible refine blk_fill (u := .int .u64 0) (v := .int .u64 0) ?_) | (with_reducible refine Blk.drew ?_) | (with_reducible refine Blk.new' _ _ _ _ (by first | (with_reducible rfl) | (simp; done))) | (with_reducible refine Blk.alloc ?_ _) | (with_reducible refine Blk.after ?_ ‹_›) | (with_reducible refine Blk.far ?_ (by first | (simp; done) | (simp; omega)) _))), blk_adr (by repeat (first | (with_reducible assumption) | (with_reducible refine blk_fill (u := .int .u64 0) (v := .int .u64 0) ?_) | (with_reducible refine Blk.drew ?_) | (with_reducible refine Blk.new' _ _ _ _ (by first | (with_reducible rfl) | (simp; done))) | (with_reducible refine Blk.alloc ?_ _) | (with_reducible refine Blk.after ?_ ‹_›) | (with_reducible refine Blk.far ?_ (by first | (simp; done) | (simp; omega)) _))), blk_two (by repeat (first | (with_reducible assumption) | (with_reducible refine blk_fill (u := .int .u64 0) (v := .int .u64 0) ?_) | (with_reducible refine Blk.drew ?_) | (with_reducible refine Blk.new' _ _ _ _ (by first | (with_reducible rfl) | (simp; done))) | (with_reducible refine Blk.alloc ?_ _) | (with_reducible refine Blk.after ?_ ‹_›) | (with_reducible refine Blk.far ?_ (by first | (simp; done) | (simp; omega)) _))), blk_two (by repeat (first | (with_reducible assumption) | (with_reducible refine blk_fill (u := .int .u64 0) (v := .int .u64 0) ?_) | (with_reducible refine Blk.drew ?_) | (with_reducible refine Blk.new' _ _ _ _ (by first | (with_reducible rfl) | (simp; done))) | (with_reducible refine Blk.alloc ?_ _) | (with_reducible refine Blk.after ?_ ‹_›) | (with_reducible refine Blk.far ?_ (by first | (simp; done) | (simp; omega)) _))), (by repeat (first | (with_reducible exact Below.refl _ _) | (with_reducible assumption) | (with_reducible refine bl_alloc ?_ _) | (with_reducible refine bl_drew ?_) | (with_reducible refine bl_drewN ?_ _) | (with_reducible refine bl_set ?_ (by first | (simp; done) | (simp; omega)) _) | (with_reducible refine bl_trans ?_ ‹_›)))⟩
  refine take_q (i := 0) (v := ?_) rfl (by kernel_rfl) (by kernel_rfl) (by kernel_rfl) (fun _ _ _ h => h) (Or.inl ⟨by rfl, ?_⟩) (by assumption) ?_
  rotate_left
  · intro w hSw; (try dsimp only at hSw); go_simp; try with_reducible rfl
  try simp only [Act.put, List.setIfInBounds_toArray, List.set_cons_zero, List.set_cons_succ]
  refine take_q (i := 2) (v := ?_) rfl (by kernel_rfl) (by kernel_rfl) (by kernel_rfl) (fun _ _ _ h => h) (Or.inl ⟨by rfl, ?_⟩) (by assumption) ?_
  rotate_left
  · intro w hSw; (try dsimp only at hSw); go_simp; try with_reducible rfl
  try simp only [Act.put, List.setIfInBounds_toArray, List.set_cons_zero, List.set_cons_succ]
  refine wpAnyH_ready (rs := [1]) (by kernel_rfl) (by simp) ?_
  refine cons_q rfl (fun K hK => ?_) AllReadyH.nil
  go_simp
  with_reducible refine (H1.out _).mono ?_; rintro e v1 ⟨rfl, hc1⟩
  refine hK.out _ _ ?_ (fun hHeld => ?_)
  · exact ⟨blk_adr (by repeat (first | (with_reducible assumption) | (with_reducible refine blk_fill (u := .int .u64 0) (v := .int .u64 0) ?_) | (with_reducible refine Blk.drew ?_) | (with_reducible refine Blk.new' _ _ _ _ (by first | (with_reducible rfl) | (simp; done))) | (with_reducible refine Blk.alloc ?_ _) | (with_reducible refine Blk.after ?_ ‹_›) | (with_reducible refine Blk.far ?_ (by first | (simp; done) | (simp; omega)) _))), blk_adr (by repeat (first | (with_reducible assumption) | (with_reducible refine blk_fill (u := .int .u64 0) (v := .int .u64 0) ?_) | (with_reducible refine Blk.drew ?_) | (with_reducible refine Blk.new' _ _ _ _ (by first | (with_reducible rfl) | (simp; done))) | (with_reducible refine Blk.alloc ?_ _) | (with_reducible refine Blk.after ?_ ‹_›) | (with_reducible refine Blk.far ?_ (by first | (simp; done) | (simp; omega)) _))), blk_adr (by repeat (first | (with_reducible assumption) | (with_reducible refine blk_fill (u := .int .u64 0) (v := .int .u64 0) ?_) | (with_reducible refine Blk.drew ?_) | (with_reducible refine Blk.new' _ _ _ _ (by first | (with_reducible rfl) | (simp; done))) | (with_reducible refine Blk.alloc ?_ _) | (with_reducible refine Blk.after ?_ ‹_›) | (with_reducible refine Blk.far ?_ (by first | (simp; done) | (simp; omega)) _))), blk_adr (by repeat (first | (with_reducible assumption) | (with_reducible refine blk_fill (u := .int .u64 0) (v := .int .u64 0) ?_) | (with_reducible refine Blk.drew ?_) | (with_reducible refine Blk.new' _ _ _ _ (by first | (with_reducible rfl) | (simp; done))) | (with_reducible refine Blk.alloc ?_ _) | (with_reducible refine Blk.after ?_ ‹_›) | (with_reducible refine Blk.far ?_ (by first | (simp; done) | (simp; omega)) _))), blk_two (by repeat (first | (with_reducible assumption) | (with_reducible refine blk_fill (u := .int .u64 0) (v := .int .u64 0) ?_) | (with_reducible refine Blk.drew ?_) | (with_reducible refine Blk.new' _ _ _ _ (by first | (with_reducible rfl) | (simp; done))) | (with_reducible refine Blk.alloc ?_ _) | (with_reducible refine Blk.after ?_ ‹_›) | (with_reducible refine Blk.far ?_ (by first | (simp; done) | (simp; omega)) _))), blk_two (by repeat (first | (with_reducible assumption) | (with_reducible refine blk_fill (u := .int .u64 0) (v := .int .u64 0) ?_) | (with_reducible refine Blk.drew ?_) | (with_reducible refine Blk.new' _ _ _ _ (by first | (with_reducible rfl) | (simp; done))) | (with_reducible refine Blk.alloc ?_ _) | (with_reducible refine Blk.after ?_ ‹_›) | (with_reducible refine Blk.far ?_ (by first | (simp; done) | (simp; omega)) _))), (by repeat (first | (with_reducible exact Below.refl _ _) | (with_reducible assumption) | (with_reducible refine bl_alloc ?_ _) | (with_reducible refine bl_drew ?_) | (with_reducible refine bl_drewN ?_ _) | (with_reducible refine bl_set ?_ (by first | (simp; done) | (simp; omega)) _) | (with_reducible refine bl_trans ?_ ‹_›)))⟩
  clear hK K
  try simp only [Act.put, List.setIfInBounds_toArray, List.set_cons_zero, List.set_cons_succ]
  refine wpAnyH_ready (rs := [3]) (by kernel_rfl) (by simp) ?_
  refine cons_q rfl (fun K hK => ?_) AllReadyH.nil
  go_simp
  with_reducible refine (H2.out _).mono ?_; rintro e v2 ⟨rfl, hc2⟩
  refine hK.out _ _ ?_ (fun hHeld => ?_)
  · exact ⟨blk_adr (by repeat (first | (with_reducible assumption) | (with_reducible refine blk_fill (u := .int .u64 0) (v := .int .u64 0) ?_) | (with_reducible refine Blk.drew ?_) | (with_reducible refine Blk.new' _ _ _ _ (by first | (with_reducible rfl) | (simp; done))) | (with_reducible refine Blk.alloc ?_ _) | (with_reducible refine Blk.after ?_ ‹_›) | (with_reducible refine Blk.far ?_ (by first | (simp; done) | (simp; omega)) _))), blk_adr (by repeat (first | (with_reducible assumption) | (with_reducible refine blk_fill (u := .int .u64 0) (v := .int .u64 0) ?_) | (with_reducible refine Blk.drew ?_) | (with_reducible refine Blk.new' _ _ _ _ (by first | (with_reducible rfl) | (simp; done))) | (with_reducible refine Blk.alloc ?_ _) | (with_reducible refine Blk.after ?_ ‹_›) | (with_reducible refine Blk.far ?_ (by first | (simp; done) | (simp; omega)) _))), blk_adr (by repeat (first | (with_reducible assumption) | (with_reducible refine blk_fill (u := .int .u64 0) (v := .int .u64 0) ?_) | (with_reducible refine Blk.drew ?_) | (with_reducible refine Blk.new' _ _ _ _ (by first | (with_reducible rfl) | (simp; done))) | (with_reducible refine Blk.alloc ?_ _) | (with_reducible refine Blk.after ?_ ‹_›) | (with_reducible refine Blk.far ?_ (by first | (simp; done) | (simp; omega)) _))), blk_adr (by repeat (first | (with_reducible assumption) | (with_reducible refine blk_fill (u := .int .u64 0) (v := .int .u64 0) ?_) | (with_reducible refine Blk.drew ?_) | (with_reducible refine Blk.new' _ _ _ _ (by first | (with_reducible rfl) | (simp; done))) | (with_reducible refine Blk.alloc ?_ _) | (with_reducible refine Blk.after ?_ ‹_›) | (with_reducible refine Blk.far ?_ (by first | (simp; done) | (simp; omega)) _))), blk_two (by repeat (first | (with_reducible assumption) | (with_reducible refine blk_fill (u := .int .u64 0) (v := .int .u64 0) ?_) | (with_reducible refine Blk.drew ?_) | (with_reducible refine Blk.new' _ _ _ _ (by first | (with_reducible rfl) | (simp; done))) | (with_reducible refine Blk.alloc ?_ _) | (with_reducible refine Blk.after ?_ ‹_›) | (with_reducible refine Blk.far ?_ (by first | (simp; done) | (simp; omega)) _))), blk_two (by repeat (first | (with_reducible assumption) | (with_reducible refine blk_fill (u := .int .u64 0) (v := .int .u64 0) ?_) | (with_reducible refine Blk.drew ?_) | (with_reducible refine Blk.new' _ _ _ _ (by first | (with_reducible rfl) | (simp; done))) | (with_reducible refine Blk.alloc ?_ _) | (with_reducible refine Blk.after ?_ ‹_›) | (with_reducible refine Blk.far ?_ (by first | (simp; done) | (simp; omega)) _))), (by repeat (first | (with_reducible exact Below.refl _ _) | (with_reducible assumption) | (with_reducible refine bl_alloc ?_ _) | (with_reducible refine bl_drew ?_) | (with_reducible refine bl_drewN ?_ _) | (with_reducible refine bl_set ?_ (by first | (simp; done) | (simp; omega)) _) | (with_reducible refine bl_trans ?_ ‹_›)))⟩
  clear hK K
  try simp only [Act.put, List.setIfInBounds_toArray, List.set_cons_zero, List.set_cons_succ]
  refine take_q (i := 4) (v := ?_) rfl (by kernel_rfl) (by kernel_rfl) (by kernel_rfl) (fun _ _ _ h => h) (Or.inl ⟨by rfl, ?_⟩) (by assumption) ?_
  rotate_left
  · intro w hSw; (try dsimp only at hSw); go_simp; try with_reducible rfl
  try simp only [Act.put, List.setIfInBounds_toArray, List.set_cons_zero, List.set_cons_succ]
  refine take_q (i := 5) (v := ?_) rfl (by kernel_rfl) (by kernel_rfl) (by kernel_rfl) (fun _ _ _ h => h) (Or.inl ⟨by rfl, ?_⟩) (by assumption) ?_
  rotate_left
  · intro w hSw; (try dsimp only at hSw); go_simp; try with_reducible rfl
  try simp only [Act.put, List.setIfInBounds_toArray, List.set_cons_zero, List.set_cons_succ]
  refine take_q (i := 6) (v := ?_) rfl (by kernel_rfl) (by kernel_rfl) (by kernel_rfl) (fun _ _ _ h => h) (Or.inl ⟨by rfl, ?_⟩) (by assumption) ?_
  rotate_left
  · intro w hSw; (try dsimp only at hSw); go_simp; try with_reducible rfl
  try simp only [Act.put, List.setIfInBounds_toArray, List.set_cons_zero, List.set_cons_succ]
  refine take_q (i := 7) (v := ?_) rfl (by kernel_rfl) (by kernel_rfl) (by kernel_rfl) (fun _ _ _ h => h) (Or.inl ⟨by rfl, ?_⟩) (by assumption) ?_
  rotate_left
  · intro w hSw; (try dsimp only at hSw); go_simp; try with_reducible rfl
  try simp only [Act.put, List.setIfInBounds_toArray, List.set_cons_zero, List.set_cons_succ]
  refine take_q (i := 9) (v := ?_) rfl (by kernel_rfl) (by kernel_rfl) (by kernel_rfl) (fun _ _ _ h => h) (Or.inl ⟨by rfl, ?_⟩) (by assumption) ?_
  rotate_left
  · intro w hSw; (try dsimp only at hSw); go_simp; try with_reducible rfl
  try simp only [Act.put, List.setIfInBounds_toArray, List.set_cons_zero, List.set_cons_succ]
  refine take_q (i := 10) (v := ?_) rfl (by kernel_rfl) (by kernel_rfl) (by kernel_rfl) (fun _ _ _ h => h) (Or.inl ⟨by rfl, ?_⟩) (by assumption) ?_
  rotate_left
  · intro w hSw; (try dsimp only at hSw); go_simp; try with_reducible rfl
  try simp only [Act.put, List.setIfInBounds_toArray, List.set_cons_zero, List.set_cons_succ]
  refine wpAnyH_ready (rs := [8]) (by kernel_rfl) (by simp) ?_
  refine cons_q rfl (fun K hK => ?_) AllReadyH.nil
  go_simp
  with_reducible refine (H3.out _).mono ?_; rintro e v3 ⟨rfl, hc3⟩
  refine hK.out _ _ ?_ (fun hHeld => ?_)
  · exact ⟨blk_adr (by repeat (first | (with_reducible assumption) | (with_reducible refine blk_fill (u := .int .u64 0) (v := .int .u64 0) ?_) | (with_reducible refine Blk.drew ?_) | (with_reducible refine Blk.new' _ _ _ _ (by first | (with_reducible rfl) | (simp; done))) | (with_reducible refine Blk.alloc ?_ _) | (with_reducible refine Blk.after ?_ ‹_›) | (with_reducible refine Blk.far ?_ (by first | (simp; done) | (simp; omega)) _))), blk_adr (by repeat (first | (with_reducible assumption) | (with_reducible refine blk_fill (u := .int .u64 0) (v := .int .u64 0) ?_) | (with_reducible refine Blk.drew ?_) | (with_reducible refine Blk.new' _ _ _ _ (by first | (with_reducible rfl) | (simp; done))) | (with_reducible refine Blk.alloc ?_ _) | (with_reducible refine Blk.after ?_ ‹_›) | (with_reducible refine Blk.far ?_ (by first | (simp; done) | (simp; omega)) _))), blk_adr (by repeat (first | (with_reducible assumption) | (with_reducible refine blk_fill (u := .int .u64 0) (v := .int .u64 0) ?_) | (with_reducible refine Blk.drew ?_) | (with_reducible refine Blk.new' _ _ _ _ (by first | (with_reducible rfl) | (simp; done))) | (with_reducible refine Blk.alloc ?_ _) | (with_reducible refine Blk.after ?_ ‹_›) | (with_reducible refine Blk.far ?_ (by first | (simp; done) | (simp; omega)) _))), blk_adr (by repeat (first | (with_reducible assumption) | (with_reducible refine blk_fill (u := .int .u64 0) (v := .int .u64 0) ?_) | (with_reducible refine Blk.drew ?_) | (with_reducible refine Blk.new' _ _ _ _ (by first | (with_reducible rfl) | (simp; done))) | (with_reducible refine Blk.alloc ?_ _) | (with_reducible refine Blk.after ?_ ‹_›) | (with_reducible refine Blk.far ?_ (by first | (simp; done) | (simp; omega)) _))), blk_two (by repeat (first | (with_reducible assumption) | (with_reducible refine blk_fill (u := .int .u64 0) (v := .int .u64 0) ?_) | (with_reducible refine Blk.drew ?_) | (with_reducible refine Blk.new' _ _ _ _ (by first | (with_reducible rfl) | (simp; done))) | (with_reducible refine Blk.alloc ?_ _) | (with_reducible refine Blk.after ?_ ‹_›) | (with_reducible refine Blk.far ?_ (by first | (simp; done) | (simp; omega)) _))), blk_two (by repeat (first | (with_reducible assumption) | (with_reducible refine blk_fill (u := .int .u64 0) (v := .int .u64 0) ?_) | (with_reducible refine Blk.drew ?_) | (with_reducible refine Blk.new' _ _ _ _ (by first | (with_reducible rfl) | (simp; done))) | (with_reducible refine Blk.alloc ?_ _) | (with_reducible refine Blk.after ?_ ‹_›) | (with_reducible refine Blk.far ?_ (by first | (simp; done) | (simp; omega)) _))), (by repeat (first | (with_reducible exact Below.refl _ _) | (with_reducible assumption) | (with_reducible refine bl_alloc ?_ _) | (with_reducible refine bl_drew ?_) | (with_reducible refine bl_drewN ?_ _) | (with_reducible refine bl_set ?_ (by first | (simp; done) | (simp; omega)) _) | (with_reducible refine bl_trans ?_ ‹_›)))⟩
  clear hK K
  try simp only [Act.put, List.setIfInBounds_toArray, List.set_cons_zero, List.set_cons_succ]
  refine wpAnyH_ready (rs := [11]) (by kernel_rfl) (by simp) ?_
  refine cons_q rfl (fun K hK => ?_) AllReadyH.nil
  go_simp
  with_reducible refine (H4.out _).mono ?_; rintro e v4 ⟨rfl, hc4⟩
  refine hK.out _ _ ?_ (fun hHeld => ?_)
  · exact ⟨blk_adr (by repeat (first | (with_reducible assumption) | (with_reducible refine blk_fill (u := .int .u64 0) (v := .int .u64 0) ?_) | (with_reducible refine Blk.drew ?_) | (with_reducible refine Blk.new' _ _ _ _ (by first | (with_reducible rfl) | (simp; done))) | (with_reducible refine Blk.alloc ?_ _) | (with_reducible refine Blk.after ?_ ‹_›) | (with_reducible refine Blk.far ?_ (by first | (simp; done) | (simp; omega)) _))), blk_adr (by repeat (first | (with_reducible assumption) | (with_reducible refine blk_fill (u := .int .u64 0) (v := .int .u64 0) ?_) | (with_reducible refine Blk.drew ?_) | (with_reducible refine Blk.new' _ _ _ _ (by first | (with_reducible rfl) | (simp; done))) | (with_reducible refine Blk.alloc ?_ _) | (with_reducible refine Blk.after ?_ ‹_›) | (with_reducible refine Blk.far ?_ (by first | (simp; done) | (simp; omega)) _))), blk_adr (by repeat (first | (with_reducible assumption) | (with_reducible refine blk_fill (u := .int .u64 0) (v := .int .u64 0) ?_) | (with_reducible refine Blk.drew ?_) | (with_reducible refine Blk.new' _ _ _ _ (by first | (with_reducible rfl) | (simp; done))) | (with_reducible refine Blk.alloc ?_ _) | (with_reducible refine Blk.after ?_ ‹_›) | (with_reducible refine Blk.far ?_ (by first | (simp; done) | (simp; omega)) _))), blk_adr (by repeat (first | (with_reducible assumption) | (with_reducible refine blk_fill (u := .int .u64 0) (v := .int .u64 0) ?_) | (with_reducible refine Blk.drew ?_) | (with_reducible refine Blk.new' _ _ _ _ (by first | (with_reducible rfl) | (simp; done))) | (with_reducible refine Blk.alloc ?_ _) | (with_reducible refine Blk.after ?_ ‹_›) | (with_reducible refine Blk.far ?_ (by first | (simp; done) | (simp; omega)) _))), blk_two (by repeat (first | (with_reducible assumption) | (with_reducible refine blk_fill (u := .int .u64 0) (v := .int .u64 0) ?_) | (with_reducible refine Blk.drew ?_) | (with_reducible refine Blk.new' _ _ _ _ (by first | (with_reducible rfl) | (simp; done))) | (with_reducible refine Blk.alloc ?_ _) | (with_reducible refine Blk.after ?_ ‹_›) | (with_reducible refine Blk.far ?_ (by first | (simp; done) | (simp; omega)) _))), blk_two (by repeat (first | (with_reducible assumption) | (with_reducible refine blk_fill (u := .int .u64 0) (v := .int .u64 0) ?_) | (with_reducible refine Blk.drew ?_) | (with_reducible refine Blk.new' _ _ _ _ (by first | (with_reducible rfl) | (simp; done))) | (with_reducible refine Blk.alloc ?_ _) | (with_reducible refine Blk.after ?_ ‹_›) | (with_reducible refine Blk.far ?_ (by first | (simp; done) | (simp; omega)) _))), (by repeat (first | (with_reducible exact Below.refl _ _) | (with_reducible assumption) | (with_reducible refine bl_alloc ?_ _) | (with_reducible refine bl_drew ?_) | (with_reducible refine bl_drewN ?_ _) | (with_reducible refine bl_set ?_ (by first | (simp; done) | (simp; omega)) _) | (with_reducible refine bl_trans ?_ ‹_›)))⟩
  clear hK K
  try simp only [Act.put, List.setIfInBounds_toArray, List.set_cons_zero, List.set_cons_succ]
  refine take_q (i := 12) (v := ?_) rfl (by kernel_rfl) (by kernel_rfl) (by kernel_rfl) (fun _ _ _ h => h) (Or.inl ⟨by rfl, ?_⟩) (by assumption) ?_
  rotate_left
  · intro w hSw; (try dsimp only at hSw); go_simp; try with_reducible rfl
  try simp only [Act.put, List.setIfInBounds_toArray, List.set_cons_zero, List.set_cons_succ]
  refine take_q (i := 13) (v := ?_) rfl (by kernel_rfl) (by kernel_rfl) (by kernel_rfl) (fun _ _ _ h => h) (Or.inl ⟨by rfl, ?_⟩) (by assumption) ?_
  rotate_left
  · intro w hSw; (try dsimp only at hSw); go_simp; try with_reducible rfl
  try simp only [Act.put, List.setIfInBounds_toArray, List.set_cons_zero, List.set_cons_succ]
  refine take_q (i := 14) (v := ?_) rfl (by kernel_rfl) (by kernel_rfl) (by kernel_rfl) (fun _ _ _ h => h) (Or.inl ⟨by rfl, ?_⟩) (by assumption) ?_
  rotate_left
  · intro w hSw; (try dsimp only at hSw); go_simp; try with_reducible rfl
  try simp only [Act.put, List.setIfInBounds_toArray, List.set_cons_zero, List.set_cons_succ]
  refine take_q (i := 15) (v := ?_) rfl (by kernel_rfl) (by kernel_rfl) (by kernel_rfl) (fun _ _ _ h => h) (Or.inl ⟨by rfl, ?_⟩) (by assumption) ?_
  rotate_left
  · intro w hSw; (try dsimp only at hSw); go_simp; try with_reducible rfl
  try simp only [Act.put, List.setIfInBounds_toArray, List.set_cons_zero, List.set_cons_succ]
  refine take_q (i := 17) (v := ?_) rfl (by kernel_rfl) (by kernel_rfl) (by kernel_rfl) (fun _ _ _ h => h) (Or.inl ⟨by rfl, ?_⟩) (by assumption) ?_
  rotate_left
  · intro w hSw; (try dsimp only at hSw); go_simp; try with_reducible rfl
  try simp only [Act.put, List.setIfInBounds_toArray, List.set_cons_zero, List.set_cons_succ]
  refine wpAnyH_ready (rs := [16]) (by kernel_rfl) (by simp) ?_
  refine cons_q rfl (fun K hK => ?_) AllReadyH.nil
  go_simp
  with_reducible refine (H5.out _).mono ?_; rintro e v5 ⟨rfl, hc5⟩
  refine hK.out _ _ ?_ (fun hHeld => ?_)
  · exact ⟨blk_adr (by repeat (first | (with_reducible assumption) | (with_reducible refine blk_fill (u := .int .u64 0) (v := .int .u64 0) ?_) | (with_reducible refine Blk.drew ?_) | (with_reducible refine Blk.new' _ _ _ _ (by first | (with_reducible rfl) | (simp; done))) | (with_reducible refine Blk.alloc ?_ _) | (with_reducible refine Blk.after ?_ ‹_›) | (with_reducible refine Blk.far ?_ (by first | (simp; done) | (simp; omega)) _))), blk_adr (by repeat (first | (with_reducible assumption) | (with_reducible refine blk_fill (u := .int .u64 0) (v := .int .u64 0) ?_) | (with_reducible refine Blk.drew ?_) | (with_reducible refine Blk.new' _ _ _ _ (by first | (with_reducible rfl) | (simp; done))) | (with_reducible refine Blk.alloc ?_ _) | (with_reducible refine Blk.after ?_ ‹_›) | (with_reducible refine Blk.far ?_ (by first | (simp; done) | (simp; omega)) _))), blk_adr (by repeat (first | (with_reducible assumption) | (with_reducible refine blk_fill (u := .int .u64 0) (v := .int .u64 0) ?_) | (with_reducible refine Blk.drew ?_) | (with_reducible refine Blk.new' _ _ _ _ (by first | (with_reducible rfl) | (simp; done))) | (with_reducible refine Blk.alloc ?_ _) | (with_reducible refine Blk.after ?_ ‹_›) | (with_reducible refine Blk.far ?_ (by first | (simp; done) | (simp; omega)) _))), blk_adr (by repeat (first | (with_reducible assumption) | (with_reducible refine blk_fill (u := .int .u64 0) (v := .int .u64 0) ?_) | (with_reducible refine Blk.drew ?_) | (with_reducible refine Blk.new' _ _ _ _ (by first | (with_reducible rfl) | (simp; done))) | (with_reducible refine Blk.alloc ?_ _) | (with_reducible refine Blk.after ?_ ‹_›) | (with_reducible refine Blk.far ?_ (by first | (simp; done) | (simp; omega)) _))), blk_two (by repeat (first | (with_reducible assumption) | (with_reducible refine blk_fill (u := .int .u64 0) (v := .int .u64 0) ?_) | (with_reducible refine Blk.drew ?_) | (with_reducible refine Blk.new' _ _ _ _ (by first | (with_reducible rfl) | (simp; done))) | (with_reducible refine Blk.alloc ?_ _) | (with_reducible refine Blk.after ?_ ‹_›) | (with_reducible refine Blk.far ?_ (by first | (simp; done) | (simp; omega)) _))), blk_two (by repeat (first | (with_reducible assumption) | (with_reducible refine blk_fill (u := .int .u64 0) (v := .int .u64 0) ?_) | (with_reducible refine Blk.drew ?_) | (with_reducible refine Blk.new' _ _ _ _ (by first | (with_reducible rfl) | (simp; done))) | (with_reducible refine Blk.alloc ?_ _) | (with_reducible refine Blk.after ?_ ‹_›) | (with_reducible refine Blk.far ?_ (by first | (simp; done) | (simp; omega)) _))), (by repeat (first | (with_reducible exact Below.refl _ _) | (with_reducible assumption) | (with_reducible refine bl_alloc ?_ _) | (with_reducible refine bl_drew ?_) | (with_reducible refine bl_drewN ?_ _) | (with_reducible refine bl_set ?_ (by first | (simp; done) | (simp; omega)) _) | (with_reducible refine bl_trans ?_ ‹_›)))⟩
  clear hK K
  try simp only [Act.put, List.setIfInBounds_toArray, List.set_cons_zero, List.set_cons_succ]
  refine wpAnyH_ready (rs := [18]) (by kernel_rfl) (by simp) ?_
  refine cons_q rfl (fun K hK => ?_) AllReadyH.nil
  go_simp
  with_reducible refine (H6.out _).mono ?_; rintro e v6 ⟨rfl, hc6⟩
  refine hK.out _ _ ?_ (fun hHeld => ?_)
  · exact ⟨blk_adr (by repeat (first | (with_reducible assumption) | (with_reducible refine blk_fill (u := .int .u64 0) (v := .int .u64 0) ?_) | (with_reducible refine Blk.drew ?_) | (with_reducible refine Blk.new' _ _ _ _ (by first | (with_reducible rfl) | (simp; done))) | (with_reducible refine Blk.alloc ?_ _) | (with_reducible refine Blk.after ?_ ‹_›) | (with_reducible refine Blk.far ?_ (by first | (simp; done) | (simp; omega)) _))), blk_adr (by repeat (first | (with_reducible assumption) | (with_reducible refine blk_fill (u := .int .u64 0) (v := .int .u64 0) ?_) | (with_reducible refine Blk.drew ?_) | (with_reducible refine Blk.new' _ _ _ _ (by first | (with_reducible rfl) | (simp; done))) | (with_reducible refine Blk.alloc ?_ _) | (with_reducible refine Blk.after ?_ ‹_›) | (with_reducible refine Blk.far ?_ (by first | (simp; done) | (simp; omega)) _))), blk_adr (by repeat (first | (with_reducible assumption) | (with_reducible refine blk_fill (u := .int .u64 0) (v := .int .u64 0) ?_) | (with_reducible refine Blk.drew ?_) | (with_reducible refine Blk.new' _ _ _ _ (by first | (with_reducible rfl) | (simp; done))) | (with_reducible refine Blk.alloc ?_ _) | (with_reducible refine Blk.after ?_ ‹_›) | (with_reducible refine Blk.far ?_ (by first | (simp; done) | (simp; omega)) _))), blk_adr (by repeat (first | (with_reducible assumption) | (with_reducible refine blk_fill (u := .int .u64 0) (v := .int .u64 0) ?_) | (with_reducible refine Blk.drew ?_) | (with_reducible refine Blk.new' _ _ _ _ (by first | (with_reducible rfl) | (simp; done))) | (with_reducible refine Blk.alloc ?_ _) | (with_reducible refine Blk.after ?_ ‹_›) | (with_reducible refine Blk.far ?_ (by first | (simp; done) | (simp; omega)) _))), blk_two (by repeat (first | (with_reducible assumption) | (with_reducible refine blk_fill (u := .int .u64 0) (v := .int .u64 0) ?_) | (with_reducible refine Blk.drew ?_) | (with_reducible refine Blk.new' _ _ _ _ (by first | (with_reducible rfl) | (simp; done))) | (with_reducible refine Blk.alloc ?_ _) | (with_reducible refine Blk.after ?_ ‹_›) | (with_reducible refine Blk.far ?_ (by first | (simp; done) | (simp; omega)) _))), blk_two (by repeat (first | (with_reducible assumption) | (with_reducible refine blk_fill (u := .int .u64 0) (v := .int .u64 0) ?_) | (with_reducible refine Blk.drew ?_) | (with_reducible refine Blk.new' _ _ _ _ (by first | (with_reducible rfl) | (simp; done))) | (with_reducible refine Blk.alloc ?_ _) | (with_reducible refine Blk.after ?_ ‹_›) | (with_reducible refine Blk.far ?_ (by first | (simp; done) | (simp; omega)) _))), (by repeat (first | (with_reducible exact Below.refl _ _) | (with_reducible assumption) | (with_reducible refine bl_alloc ?_ _) | (with_reducible refine bl_drew ?_) | (with_reducible refine bl_drewN ?_ _) | (with_reducible refine bl_set ?_ (by first | (simp; done) | (simp; omega)) _) | (with_reducible refine bl_trans ?_ ‹_›)))⟩
  clear hK K
  try simp only [Act.put, List.setIfInBounds_toArray, List.set_cons_zero, List.set_cons_succ]
  refine take_q (i := 19) (v := ?_) rfl (by kernel_rfl) (by kernel_rfl) (by kernel_rfl) (fun _ _ _ h => h) (Or.inl ⟨by rfl, ?_⟩) (by assumption) ?_
  rotate_left
  · intro w hSw; (try dsimp only at hSw); go_simp; try with_reducible rfl
  try simp only [Act.put, List.setIfInBounds_toArray, List.set_cons_zero, List.set_cons_succ]
  refine take_q (i := 20) (v := ?_) rfl (by kernel_rfl) (by kernel_rfl) (by kernel_rfl) (fun _ _ _ h => h) (Or.inl ⟨by rfl, ?_⟩) (by assumption) ?_
  rotate_left
  · intro w hSw; (try dsimp only at hSw); go_simp; try with_reducible rfl
  try simp only [Act.put, List.setIfInBounds_toArray, List.set_cons_zero, List.set_cons_succ]
  refine take_q (i := 21) (v := ?_) rfl (by kernel_rfl) (by kernel_rfl) (by kernel_rfl) (fun _ _ _ h => h) (Or.inl ⟨by rfl, ?_⟩) (by assumption) ?_
  rotate_left
  · intro w hSw; (try dsimp only at hSw); go_simp; try with_reducible rfl
  try simp only [Act.put, List.setIfInBounds_toArray, List.set_cons_zero, List.set_cons_succ]
  refine take_q (i := 22) (v := ?_) rfl (by kernel_rfl) (by kernel_rfl) (by kernel_rfl) (fun _ _ _ h => h) (Or.inl ⟨by rfl, ?_⟩) (by assumption) ?_
  rotate_left
  · intro w hSw; (try dsimp only at hSw); go_simp; try with_reducible rfl
  try simp only [Act.put, List.setIfInBounds_toArray, List.set_cons_zero, List.set_cons_succ]
  refine take_q (i := 23) (v := ?_) rfl (by kernel_rfl) (by kernel_rfl) (by kernel_rfl) (fun _ _ _ h => h) (Or.inl ⟨by rfl, ?_⟩) (by assumption) ?_
  rotate_left
  · intro w hSw; (try dsimp only at hSw); go_simp; try with_reducible rfl
  try simp only [Act.put, List.setIfInBounds_toArray, List.set_cons_zero, List.set_cons_succ]
  refine take_q (i := 24) (v := ?_) rfl (by kernel_rfl) (by kernel_rfl) (by kernel_rfl) (fun _ _ _ h => h) (Or.inl ⟨by rfl, ?_⟩) (by assumption) ?_
  rotate_left
  · intro w hSw; (try dsimp only at hSw); go_simp; try with_reducible rfl
  try simp only [Act.put, List.setIfInBounds_toArray, List.set_cons_zero, List.set_cons_succ]
  refine take_q (i := 25) (v := ?_) rfl (by kernel_rfl) (by kernel_rfl) (by kernel_rfl) (fun _ _ _ h => h) (Or.inl ⟨by rfl, ?_⟩) (by assumption) ?_
  rotate_left
  · intro w hSw; (try dsimp only at hSw); go_simp; try with_reducible rfl
  try simp only [Act.put, List.setIfInBounds_toArray, List.set_cons_zero, List.set_cons_succ]
  refine take_q (i := 26) (v := ?_) rfl (by kernel_rfl) (by kernel_rfl) (by kernel_rfl) (fun _ _ _ h => h) (Or.inl ⟨by rfl, ?_⟩) (by assumption) ?_
  rotate_left
  · intro w hSw; (try dsimp only at hSw); go_simp; try with_reducible rfl
  try simp only [Act.put, List.setIfInBounds_toArray, List.set_cons_zero, List.set_cons_succ]
  refine take_q (i := 27) (v := ?_) rfl (by kernel_rfl) (by kernel_rfl) (by kernel_rfl) (fun _ _ _ h => h) (Or.inl ⟨by rfl, ?_⟩) (by assumption) ?_
  rotate_left
  · intro w hSw; (try dsimp only at hSw); go_simp; try with_reducible rfl
  try simp only [Act.put, List.setIfInBounds_toArray, List.set_cons_zero, List.set_cons_succ]
  refine take_q (i := 28) (v := ?_) rfl (by kernel_rfl) (by kernel_rfl) (by kernel_rfl) (fun _ _ _ h => h) (Or.inl ⟨by rfl, ?_⟩) (by assumption) ?_
  rotate_left
  · intro w hSw; (try dsimp only at hSw); go_simp; try with_reducible rfl
  try simp only [Act.put, List.setIfInBounds_toArray, List.set_cons_zero, List.set_cons_succ]
  refine take_q (i := 29) (v := ?_) rfl (by kernel_rfl) (by kernel_rfl) (by kernel_rfl) (fun _ _ _ h => h) (Or.inl ⟨by rfl, ?_⟩) (by assumption) ?_
  rotate_left
  · intro w hSw; (try dsimp only at hSw); go_simp; try with_reducible rfl
  try simp only [Act.put, List.setIfInBounds_toArray, List.set_cons_zero, List.set_cons_succ]
  refine take_q (i := 30) (v := ?_) rfl (by kernel_rfl) (by kernel_rfl) (by kernel_rfl) (fun _ _ _ h => h) (Or.inl ⟨by rfl, ?_⟩) (by assumption) ?_
  rotate_left
  · intro w hSw; (try dsimp only at hSw); go_simp; try with_reducible rfl
  try simp only [Act.put, List.setIfInBounds_toArray, List.set_cons_zero, List.set_cons_succ]
  refine take_q (i := 31) (v := ?_) rfl (by kernel_rfl) (by kernel_rfl) (by kernel_rfl) (fun _ _ _ h => h) (Or.inl ⟨by rfl, ?_⟩) (by assumption) ?_
  rotate_left
  · intro w hSw; (try dsimp only at hSw); go_simp; try with_reducible rfl
  try simp only [Act.put, List.setIfInBounds_toArray, List.set_cons_zero, List.set_cons_succ]
  refine take_q (i := 32) (v := ?_) rfl (by kernel_rfl) (by kernel_rfl) (by kernel_rfl) (fun _ _ _ h => h) (Or.inl ⟨by rfl, ?_⟩) (by assumption) ?_
  rotate_left
  · intro w hSw; (try dsimp only at hSw); go_simp; try with_reducible rfl
  try simp only [Act.put, List.setIfInBounds_toArray, List.set_cons_zero, List.set_cons_succ]
  refine take_q (i := 33) (v := ?_) rfl (by kernel_rfl) (by kernel_rfl) (by kernel_rfl) (fun _ _ _ h => h) (Or.inl ⟨by rfl, ?_⟩) (by assumption) ?_
  rotate_left
  · intro w hSw; (try dsimp only at hSw); go_simp; try with_reducible rfl
  try simp only [Act.put, List.setIfInBounds_toArray, List.set_cons_zero, List.set_cons_succ]
  refine take_q (i := 34) (v := ?_) rfl (by kernel_rfl) (by kernel_rfl) (by kernel_rfl) (fun _ _ _ h => h) (Or.inl ⟨by rfl, ?_⟩) (by assumption) ?_
  rotate_left
  · intro w hSw; (try dsimp only at hSw); go_simp; try with_reducible rfl
  try simp only [Act.put, List.setIfInBounds_toArray, List.set_cons_zero, List.set_cons_succ]
  refine take_q (i := 35) (v := ?_) rfl (by kernel_rfl) (by kernel_rfl) (by kernel_rfl) (fun _ _ _ h => h) (Or.inl ⟨by rfl, ?_⟩) (by assumption) ?_
  rotate_left
  · intro w hSw; (try dsimp only at hSw); go_simp; try with_reducible rfl
  try simp only [Act.put, List.setIfInBounds_toArray, List.set_cons_zero, List.set_cons_succ]
  refine take_q (i := 36) (v := ?_) rfl (by kernel_rfl) (by kernel_rfl) (by kernel_rfl) (fun _ _ _ h => h) (Or.inl ⟨by rfl, ?_⟩) (by assumption) ?_
  rotate_left
  · intro w hSw; (try dsimp only at hSw); go_simp; try with_reducible rfl
  try simp only [Act.put, List.setIfInBounds_toArray, List.set_cons_zero, List.set_cons_succ]
  refine take_q (i := 37) (v := ?_) rfl (by kernel_rfl) (by kernel_rfl) (by kernel_rfl) (fun _ _ _ h => h) (Or.inl ⟨by rfl, ?_⟩) (by assumption) ?_
  rotate_left
  · intro w hSw; (try dsimp only at hSw); go_simp; try with_reducible rfl
  try simp only [Act.put, List.setIfInBounds_toArray, List.set_cons_zero, List.set_cons_succ]
  refine take_q (i := 38) (v := ?_) rfl (by kernel_rfl) (by kernel_rfl) (by kernel_rfl) (fun _ _ _ h => h) (Or.inl ⟨by rfl, ?_⟩) (by assumption) ?_
  rotate_left
  · intro w hSw; (try dsimp only at hSw); go_simp; try with_reducible rfl
  try simp only [Act.put, List.setIfInBounds_toArray, List.set_cons_zero, List.set_cons_succ]
  refine take_q (i := 39) (v := ?_) rfl (by kernel_rfl) (by kernel_rfl) (by kernel_rfl) (fun _ _ _ h => h) (Or.inl ⟨by rfl, ?_⟩) (by assumption) ?_
  rotate_left
  · intro w hSw; (try dsimp only at hSw); go_simp; try with_reducible rfl
  try simp only [Act.put, List.setIfInBounds_toArray, List.set_cons_zero, List.set_cons_succ]
  refine take_q (i := 40) (v := ?_) rfl (by kernel_rfl) (by kernel_rfl) (by kernel_rfl) (fun _ _ _ h => h) (Or.inl ⟨by rfl, ?_⟩) (by assumption) ?_
  rotate_left
  · intro w hSw; (try dsimp only at hSw); go_simp; try with_reducible rfl
  try simp only [Act.put, List.setIfInBounds_toArray, List.set_cons_zero, List.set_cons_succ]
  refine take_q (i := 41) (v := ?_) rfl (by kernel_rfl) (by kernel_rfl) (by kernel_rfl) (fun _ _ _ h => h) (Or.inl ⟨by rfl, ?_⟩) (by assumption) ?_
  rotate_left
  · intro w hSw; (try dsimp only at hSw); go_simp; try with_reducible rfl
  try simp only [Act.put, List.setIfInBounds_toArray, List.set_cons_zero, List.set_cons_succ]
  refine wpAnyH_done (by kernel_rfl) ?_ _
  go_wp2_with fail
  go_ret
  exact ⟨rfl, hHeld.2.2.2.2.2.2⟩
end Go.Proofs.YtgdgklibilddgaaGreatDoor
