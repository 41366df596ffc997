/- Addresses: the reference's text of any address. -/
import Derived.Test.YtgdgklibilddgaaDoorAeE
import Derived.Test.YtgdgklibilddgaaDoorLd
namespace Go.Proofs.YtgdgklibilddgaaDoor
open Go.RowKit

set_option maxRecDepth 100000 in
theorem rprint_no (v6 : Bool) (n : Nat) (w : World) (hn : n < 340282366920938463463374607431768211456) (hr : rightB v6 n = false) :
    Calls Tryd.prog 10 #[AddrV v6 n] w fun e w' => e = .returned (.string ⟨#[]⟩) ∧ Below w.heap.size w w' := by
  have HR := Lib.hid (fun w => rright_c v6 n w hn)
  rw [hr] at HR
  simp only [AddrV_eq, AddrC] at *
  go_enter Tryd.func10, Tryd.ntmps10
  go_wp2_with fail
  with_reducible refine (HR.out _).mono ?_
  rintro e w1 ⟨rfl, hb1⟩
  go_wp2_with fail
  go_ret
  exact ⟨rfl, (by repeat (first | (with_reducible exact Below.refl _ _) | (with_reducible assumption) | (with_reducible refine bl_alloc ?_ _) | (with_reducible refine bl_drew ?_) | (with_reducible refine bl_drewN ?_ _) | (with_reducible refine bl_set ?_ (by first | (simp; done) | (simp; omega)) _) | (with_reducible refine bl_trans ?_ ‹_›)))⟩
theorem byte_cell4 {n j : Nat} (hj : j < 4) : (bytesV (ints (bytesB 4 n)))[j]? = some (.int .u8 ((n / 256 ^ (3 - j) % 256 : Nat) : Int)) := by
  have h := bytesB_at (k := 4) (n := n) hj
  simp only [bytesV, ints, List.getElem?_map, h, Option.map_some]
  rfl
set_option maxRecDepth 100000 in
set_option maxHeartbeats 3200000 in
theorem rprint4_c (n : Nat) (w : World) (hn : n < 4294967296) :
    Calls Tryd.prog 10 #[AddrV false n] w fun e w' => e = .returned (.string ⟨(print4 n).toArray⟩) ∧ Below w.heap.size w w' := by
  have hn2 : n < 340282366920938463463374607431768211456 := Nat.lt_trans hn (by decide)
  have HR := Lib.hid (fun w => rright_c false n w hn2)
  have hrt : rightB false n = true := decide_eq_true hn
  rw [hrt] at HR
  have HB := Lib.hid (fun w => rbytes_c false n w hn2)
  clear hrt
  simp only [AddrV_eq, AddrC] at *
  go_enter Tryd.func10, Tryd.ntmps10
  go_wp2_with fail
  have hA : Blk (w.alloc (Obj.cells #[.bool false, .int .u64 (hi n), .int .u64 (lo n)] 26)) (w.heap.size) 26 (AddrC false n) := (Blk.new' _ _ _ _ (by simp) : Blk (w.alloc (Obj.cells #[.bool false, .int .u64 (hi n), .int .u64 (lo n)] 26)) (w.heap.size) 26 (AddrC false n))
  have hbel : Below w.heap.size w (w.alloc (Obj.cells #[.bool false, .int .u64 (hi n), .int .u64 (lo n)] 26)) := (by repeat (first | (with_reducible exact Below.refl _ _) | (with_reducible assumption) | (with_reducible refine bl_alloc ?_ _) | (with_reducible refine bl_drew ?_) | (with_reducible refine bl_drewN ?_ _) | (with_reducible refine bl_set ?_ (by first | (simp; done) | (simp; omega)) _) | (with_reducible refine bl_trans ?_ ‹_›)))
  have hsz : (w.alloc (Obj.cells #[.bool false, .int .u64 (hi n), .int .u64 (lo n)] 26)).heap.size = w.heap.size + 1 := by simp
  generalize w.alloc (Obj.cells #[.bool false, .int .u64 (hi n), .int .u64 (lo n)] 26) = w0 at *
  with_reducible refine (HR.out _).mono ?_
  rintro e w1 ⟨rfl, hb⟩
  (try clear a0 a1 a2 az0 az1 az2 az3)
  replace hA := hA.after hb
  obtain ⟨a0, a1, a2, _⟩ := blk_adr hA
  have az0 := hA.frozen 0
  have az1 := hA.frozen 1
  have az2 := hA.frozen 2
  (try clear al al1 al2)
  have al := hA.lt
  have al1 := Nat.lt_succ_of_lt al
  have al2 := Nat.lt_succ_of_lt al1
  try simp only [Nat.succ_eq_add_one] at al1 al2
  replace hbel := bl_trans hbel hb
  clear hb
  go_wp2_with fail
  with_reducible refine (HB.out _).mono ?_
  rintro e w2 ⟨vb, rfl, hownb, hb⟩
  obtain ⟨gb, cb, rfl, _, q2, q3, q4, _⟩ := own_form hownb (by decide : 0 < byteN false)
  have hcb : 4 ≤ cb := q3
  have hx : ∀ j, j < 4 → w2.cell? ⟨gb, j, none⟩ = some (.int .u8 ((n / 256 ^ (3 - j) % 256 : Nat) : Int)) := fun j hj => q4 j _ (byte_cell4 hj)
  have y0 := hx 0 (by omega)
  have y1 := hx 1 (by omega)
  have y2 := hx 2 (by omega)
  have y3 := hx 3 (by omega)
  replace hA := hA.after hb
  replace hbel := bl_trans hbel hb
  clear hx q4 q3 hb hownb a0 a1 a2 az0 az1 az2
  obtain ⟨a0, a1, a2, _⟩ := blk_adr hA
  have az0 := hA.frozen 0
  have az1 := hA.frozen 1
  have az2 := hA.frozen 2
  have hb4 : byteN false = 4 := rfl
  rw [hb4]
  have hpr : (⟨(print4 n).toArray⟩ : ByteArray) = itoaT (n / 256 ^ (3 - 0) % 256) ++ ⟨#[46]⟩ ++ itoaT (n / 256 ^ (3 - 1) % 256) ++ ⟨#[46]⟩ ++ itoaT (n / 256 ^ (3 - 2) % 256) ++ ⟨#[46]⟩ ++ itoaT (n / 256 ^ (3 - 3) % 256) := by
    apply ByteArray.ext
    apply Array.toList_inj.1
    unfold print4 itoaT
    rw [show bytesB 4 n = [n / 256 ^ (3 - 0) % 256, n / 256 ^ (3 - 1) % 256, n / 256 ^ (3 - 2) % 256, n / 256 ^ (3 - 3) % 256] from rfl]
    simp only [List.map, join_cons, join_one]
    simp
  have p0 : n / 256 ^ (3 - 0) % 256 < 256 := Nat.mod_lt _ (by omega)
  have p1 : n / 256 ^ (3 - 1) % 256 < 256 := Nat.mod_lt _ (by omega)
  have p2 : n / 256 ^ (3 - 2) % 256 < 256 := Nat.mod_lt _ (by omega)
  have p3 : n / 256 ^ (3 - 3) % 256 < 256 := Nat.mod_lt _ (by omega)
  have HPR := Lib.hid hpr
  clear hpr
  obtain ⟨e0, he0⟩ : ∃ e, n / 256 ^ (3 - 0) % 256 = e := ⟨_, rfl⟩
  rw [he0] at HPR p0 y0
  clear he0
  have HD0 := Lib.hid (fun w => rdec_c e0 w p0)
  have hz0 : (itoaT e0).size ≤ 3 := (by decide +kernel : ∀ x, x < 256 → (itoaT x).size ≤ 3) e0 p0
  have hw0 : IntKind.i64.wrap (e0 : Int) = e0 := IntWalk.i64_in _ (by omega)
  obtain ⟨D0, hD0⟩ : ∃ D, itoaT e0 = D := ⟨_, rfl⟩
  rw [hD0] at HPR HD0 hz0
  clear hD0
  obtain ⟨e1, he1⟩ : ∃ e, n / 256 ^ (3 - 1) % 256 = e := ⟨_, rfl⟩
  rw [he1] at HPR p1 y1
  clear he1
  have HD1 := Lib.hid (fun w => rdec_c e1 w p1)
  have hz1 : (itoaT e1).size ≤ 3 := (by decide +kernel : ∀ x, x < 256 → (itoaT x).size ≤ 3) e1 p1
  have hw1 : IntKind.i64.wrap (e1 : Int) = e1 := IntWalk.i64_in _ (by omega)
  obtain ⟨D1, hD1⟩ : ∃ D, itoaT e1 = D := ⟨_, rfl⟩
  rw [hD1] at HPR HD1 hz1
  clear hD1
  obtain ⟨e2, he2⟩ : ∃ e, n / 256 ^ (3 - 2) % 256 = e := ⟨_, rfl⟩
  rw [he2] at HPR p2 y2
  clear he2
  have HD2 := Lib.hid (fun w => rdec_c e2 w p2)
  have hz2 : (itoaT e2).size ≤ 3 := (by decide +kernel : ∀ x, x < 256 → (itoaT x).size ≤ 3) e2 p2
  have hw2 : IntKind.i64.wrap (e2 : Int) = e2 := IntWalk.i64_in _ (by omega)
  obtain ⟨D2, hD2⟩ : ∃ D, itoaT e2 = D := ⟨_, rfl⟩
  rw [hD2] at HPR HD2 hz2
  clear hD2
  obtain ⟨e3, he3⟩ : ∃ e, n / 256 ^ (3 - 3) % 256 = e := ⟨_, rfl⟩
  rw [he3] at HPR p3 y3
  clear he3
  have HD3 := Lib.hid (fun w => rdec_c e3 w p3)
  have hz3 : (itoaT e3).size ≤ 3 := (by decide +kernel : ∀ x, x < 256 → (itoaT x).size ≤ 3) e3 p3
  have hw3 : IntKind.i64.wrap (e3 : Int) = e3 := IntWalk.i64_in _ (by omega)
  obtain ⟨D3, hD3⟩ : ∃ D, itoaT e3 = D := ⟨_, rfl⟩
  rw [hD3] at HPR HD3 hz3
  clear hD3
  have hc1 : ∀ w, (Op.stringOp .add D0 ⟨#[46]⟩).run Tryd.prog w = .ok (.string (D0 ++ ⟨#[46]⟩)) w := fun w => run_string_add w _ _ (by omega) (by decide)
  have hs1 : (D0 ++ (⟨#[46]⟩ : ByteArray)).size ≤ 4 := by rw [ByteArray.size_append]; show D0.size + 1 ≤ 4; omega
  have hc2 : ∀ w, (Op.stringOp .add (D0 ++ ⟨#[46]⟩) D1).run Tryd.prog w = .ok (.string (D0 ++ ⟨#[46]⟩ ++ D1)) w := fun w => run_string_add w _ _ (by omega) (by omega)
  have hs2 : (D0 ++ (⟨#[46]⟩ : ByteArray) ++ D1).size ≤ 7 := by rw [ByteArray.size_append]; omega
  have hc3 : ∀ w, (Op.stringOp .add (D0 ++ ⟨#[46]⟩ ++ D1) ⟨#[46]⟩).run Tryd.prog w = .ok (.string (D0 ++ ⟨#[46]⟩ ++ D1 ++ ⟨#[46]⟩)) w := fun w => run_string_add w _ _ (by omega) (by decide)
  have hs3 : (D0 ++ (⟨#[46]⟩ : ByteArray) ++ D1 ++ (⟨#[46]⟩ : ByteArray)).size ≤ 8 := by rw [ByteArray.size_append]; show _ + 1 ≤ 8; omega
  have hc4 : ∀ w, (Op.stringOp .add (D0 ++ ⟨#[46]⟩ ++ D1 ++ ⟨#[46]⟩) D2).run Tryd.prog w = .ok (.string (D0 ++ ⟨#[46]⟩ ++ D1 ++ ⟨#[46]⟩ ++ D2)) w := fun w => run_string_add w _ _ (by omega) (by omega)
  have hs4 : (D0 ++ (⟨#[46]⟩ : ByteArray) ++ D1 ++ (⟨#[46]⟩ : ByteArray) ++ D2).size ≤ 11 := by rw [ByteArray.size_append]; omega
  have hc5 : ∀ w, (Op.stringOp .add (D0 ++ ⟨#[46]⟩ ++ D1 ++ ⟨#[46]⟩ ++ D2) ⟨#[46]⟩).run Tryd.prog w = .ok (.string (D0 ++ ⟨#[46]⟩ ++ D1 ++ ⟨#[46]⟩ ++ D2 ++ ⟨#[46]⟩)) w := fun w => run_string_add w _ _ (by omega) (by decide)
  have hs5 : (D0 ++ (⟨#[46]⟩ : ByteArray) ++ D1 ++ (⟨#[46]⟩ : ByteArray) ++ D2 ++ (⟨#[46]⟩ : ByteArray)).size ≤ 12 := by rw [ByteArray.size_append]; show _ + 1 ≤ 12; omega
  have hc6 : ∀ w, (Op.stringOp .add (D0 ++ ⟨#[46]⟩ ++ D1 ++ ⟨#[46]⟩ ++ D2 ++ ⟨#[46]⟩) D3).run Tryd.prog w = .ok (.string (D0 ++ ⟨#[46]⟩ ++ D1 ++ ⟨#[46]⟩ ++ D2 ++ ⟨#[46]⟩ ++ D3)) w := fun w => run_string_add w _ _ (by omega) (by omega)
  have hks : ∀ w', Below w2.heap.size w2 w' → (w'.cell? ⟨gb, 0, none⟩ = some (.int .u8 (e0 : Nat)) ∧ w'.cell? ⟨gb, 1, none⟩ = some (.int .u8 (e1 : Nat)) ∧ w'.cell? ⟨gb, 2, none⟩ = some (.int .u8 (e2 : Nat)) ∧ w'.cell? ⟨gb, 3, none⟩ = some (.int .u8 (e3 : Nat))) ∧ Below w2.heap.size w2 w' := fun w' h =>
    ⟨⟨(h.cell (p := ⟨gb, 0, none⟩) q2).trans y0, (h.cell (p := ⟨gb, 1, none⟩) q2).trans y1, (h.cell (p := ⟨gb, 2, none⟩) q2).trans y2, (h.cell (p := ⟨gb, 3, none⟩) q2).trans y3⟩, h⟩
  have HKS := Lib.hid hks
  clear hks
  go_wp2_with fail
  refine wp_region_held_drew (S := fun w' => (w'.cell? ⟨gb, 0, none⟩ = some (.int .u8 (e0 : Nat)) ∧ w'.cell? ⟨gb, 1, none⟩ = some (.int .u8 (e1 : Nat)) ∧ w'.cell? ⟨gb, 2, none⟩ = some (.int .u8 (e2 : Nat)) ∧ w'.cell? ⟨gb, 3, none⟩ = some (.int .u8 (e3 : Nat))) ∧ Below w2.heap.size w2 w') (by kernel_rfl) ?_ (fun hHeld => ?_)
  · exact HKS.out _ (by repeat (first | (with_reducible exact Below.refl _ _) | (with_reducible assumption) | (with_reducible refine bl_alloc ?_ _) | (with_reducible refine bl_drew ?_) | (with_reducible refine bl_drewN ?_ _) | (with_reducible refine bl_set ?_ (by first | (simp; done) | (simp; omega)) _) | (with_reducible refine bl_trans ?_ ‹_›)))
  refine take_q (i := 0) (v := ?_) rfl (by kernel_rfl) (by kernel_rfl) (by kernel_rfl) (fun _ _ _ h => h) (Or.inl ⟨by rfl, ?_⟩) (by assumption) ?_
  rotate_left
  · intro w hSw; (try dsimp only at hSw); go_simp; try with_reducible rfl
  try simp only [Act.put, List.setIfInBounds_toArray, List.set_cons_zero, List.set_cons_succ]
  refine take_q (i := 1) (v := ?_) rfl (by kernel_rfl) (by kernel_rfl) (by kernel_rfl) (fun _ _ _ h => h) (Or.inl ⟨by rfl, ?_⟩) (by assumption) ?_
  rotate_left
  · intro w hSw; (try dsimp only at hSw); go_simp; try with_reducible rfl
  try simp only [Act.put, List.setIfInBounds_toArray, List.set_cons_zero, List.set_cons_succ]
  refine take_q (i := 2) (v := ?_) rfl (by kernel_rfl) (by kernel_rfl) (by kernel_rfl) (fun _ _ _ h => h) (Or.inl ⟨by rfl, ?_⟩) (by assumption) ?_
  rotate_left
  · intro w hSw; (try dsimp only at hSw); go_simp; try with_reducible rfl
  try simp only [Act.put, List.setIfInBounds_toArray, List.set_cons_zero, List.set_cons_succ]
  refine take_q (i := 3) (v := ?_) rfl (by kernel_rfl) (by kernel_rfl) (by kernel_rfl) (fun _ _ _ h => h) (Or.inl ⟨by rfl, ?_⟩) (by assumption) ?_
  rotate_left
  · intro w hSw; (try dsimp only at hSw); go_simp; try with_reducible rfl
  try simp only [Act.put, List.setIfInBounds_toArray, List.set_cons_zero, List.set_cons_succ]
  refine take_q (i := 6) (v := ?_) rfl (by kernel_rfl) (by kernel_rfl) (by kernel_rfl) (fun _ _ _ h => h) (Or.inl ⟨by rfl, ?_⟩) (by assumption) ?_
  rotate_left
  · intro w hSw; (try dsimp only at hSw); go_simp; try with_reducible rfl
  try simp only [Act.put, List.setIfInBounds_toArray, List.set_cons_zero, List.set_cons_succ]
  refine take_q (i := 7) (v := ?_) rfl (by kernel_rfl) (by kernel_rfl) (by kernel_rfl) (fun _ _ _ h => h) (Or.inl ⟨by rfl, ?_⟩) (by assumption) ?_
  rotate_left
  · intro w hSw; (try dsimp only at hSw); go_simp; try with_reducible rfl
  try simp only [Act.put, List.setIfInBounds_toArray, List.set_cons_zero, List.set_cons_succ]
  refine take_q (i := 8) (v := ?_) rfl (by kernel_rfl) (by kernel_rfl) (by kernel_rfl) (fun _ _ _ h => h) (Or.inl ⟨by rfl, ?_⟩) (by assumption) ?_
  rotate_left
  · intro w hSw; (try dsimp only at hSw); go_simp; try with_reducible rfl
  try simp only [Act.put, List.setIfInBounds_toArray, List.set_cons_zero, List.set_cons_succ]
  refine take_q (i := 9) (v := ?_) rfl (by kernel_rfl) (by kernel_rfl) (by kernel_rfl) (fun _ _ _ h => h) (Or.inl ⟨by rfl, ?_⟩) (by assumption) ?_
  rotate_left
  · intro w hSw; (try dsimp only at hSw); go_simp; try with_reducible rfl
  try simp only [Act.put, List.setIfInBounds_toArray, List.set_cons_zero, List.set_cons_succ]
  refine take_q (i := 13) (v := ?_) rfl (by kernel_rfl) (by kernel_rfl) (by kernel_rfl) (fun _ _ _ h => h) (Or.inl ⟨by rfl, ?_⟩) (by assumption) ?_
  rotate_left
  · intro w hSw; (try dsimp only at hSw); go_simp; try with_reducible rfl
  try simp only [Act.put, List.setIfInBounds_toArray, List.set_cons_zero, List.set_cons_succ]
  refine take_q (i := 14) (v := ?_) rfl (by kernel_rfl) (by kernel_rfl) (by kernel_rfl) (fun _ _ _ h => h) (Or.inl ⟨by rfl, ?_⟩) (by assumption) ?_
  rotate_left
  · intro w hSw; (try dsimp only at hSw); go_simp; try with_reducible rfl
  try simp only [Act.put, List.setIfInBounds_toArray, List.set_cons_zero, List.set_cons_succ]
  refine take_q (i := 15) (v := ?_) rfl (by kernel_rfl) (by kernel_rfl) (by kernel_rfl) (fun _ _ _ h => h) (Or.inl ⟨by rfl, ?_⟩) (by assumption) ?_
  rotate_left
  · intro w hSw; (try dsimp only at hSw); go_simp; try with_reducible rfl
  try simp only [Act.put, List.setIfInBounds_toArray, List.set_cons_zero, List.set_cons_succ]
  refine take_q (i := 16) (v := ?_) rfl (by kernel_rfl) (by kernel_rfl) (by kernel_rfl) (fun _ _ _ h => h) (Or.inl ⟨by rfl, ?_⟩) (by assumption) ?_
  rotate_left
  · intro w hSw; (try dsimp only at hSw); go_simp; try with_reducible rfl
  try simp only [Act.put, List.setIfInBounds_toArray, List.set_cons_zero, List.set_cons_succ]
  refine take_q (i := 20) (v := ?_) rfl (by kernel_rfl) (by kernel_rfl) (by kernel_rfl) (fun _ _ _ h => h) (Or.inl ⟨by rfl, ?_⟩) (by assumption) ?_
  rotate_left
  · intro w hSw; (try dsimp only at hSw); go_simp; try with_reducible rfl
  try simp only [Act.put, List.setIfInBounds_toArray, List.set_cons_zero, List.set_cons_succ]
  refine take_q (i := 21) (v := ?_) rfl (by kernel_rfl) (by kernel_rfl) (by kernel_rfl) (fun _ _ _ h => h) (Or.inl ⟨by rfl, ?_⟩) (by assumption) ?_
  rotate_left
  · intro w hSw; (try dsimp only at hSw); go_simp; try with_reducible rfl
  try simp only [Act.put, List.setIfInBounds_toArray, List.set_cons_zero, List.set_cons_succ]
  refine take_q (i := 22) (v := ?_) rfl (by kernel_rfl) (by kernel_rfl) (by kernel_rfl) (fun _ _ _ h => h) (Or.inl ⟨by rfl, ?_⟩) (by assumption) ?_
  rotate_left
  · intro w hSw; (try dsimp only at hSw); go_simp; try with_reducible rfl
  try simp only [Act.put, List.setIfInBounds_toArray, List.set_cons_zero, List.set_cons_succ]
  refine take_q (i := 23) (v := ?_) rfl (by kernel_rfl) (by kernel_rfl) (by kernel_rfl) (fun _ _ _ h => h) (Or.inl ⟨by rfl, ?_⟩) (by assumption) ?_
  rotate_left
  · intro w hSw; (try dsimp only at hSw); go_simp; try with_reducible rfl
  try simp only [Act.put, List.setIfInBounds_toArray, List.set_cons_zero, List.set_cons_succ]
  refine wpAnyH_ready (rs := [4]) (by kernel_rfl) (by simp) ?_
  refine cons_q rfl (fun K hK => ?_) AllReadyH.nil
  go_simp
  with_reducible refine (HD0.out _).mono ?_; rintro e v0 ⟨rfl, hc_0⟩
  refine hK.out _ _ ?_ (fun hHeld => ?_)
  · exact HKS.out _ (by repeat (first | (with_reducible exact Below.refl _ _) | (with_reducible assumption) | (with_reducible refine bl_alloc ?_ _) | (with_reducible refine bl_drew ?_) | (with_reducible refine bl_drewN ?_ _) | (with_reducible refine bl_set ?_ (by first | (simp; done) | (simp; omega)) _) | (with_reducible refine bl_trans ?_ ‹_›)))
  clear hK K
  try simp only [Act.put, List.setIfInBounds_toArray, List.set_cons_zero, List.set_cons_succ]
  refine take_q (i := 5) (v := ?_) rfl (by kernel_rfl) (by kernel_rfl) (by kernel_rfl) (fun _ _ _ h => h) (Or.inl ⟨by rfl, ?_⟩) (by assumption) ?_
  rotate_left
  · intro w hSw; (try dsimp only at hSw); go_simp; try with_reducible rfl
  try simp only [Act.put, List.setIfInBounds_toArray, List.set_cons_zero, List.set_cons_succ]
  refine wpAnyH_ready (rs := [10]) (by kernel_rfl) (by simp) ?_
  refine cons_q rfl (fun K hK => ?_) AllReadyH.nil
  go_simp
  with_reducible refine (HD1.out _).mono ?_; rintro e v1 ⟨rfl, hc_1⟩
  refine hK.out _ _ ?_ (fun hHeld => ?_)
  · exact HKS.out _ (by repeat (first | (with_reducible exact Below.refl _ _) | (with_reducible assumption) | (with_reducible refine bl_alloc ?_ _) | (with_reducible refine bl_drew ?_) | (with_reducible refine bl_drewN ?_ _) | (with_reducible refine bl_set ?_ (by first | (simp; done) | (simp; omega)) _) | (with_reducible refine bl_trans ?_ ‹_›)))
  clear hK K
  try simp only [Act.put, List.setIfInBounds_toArray, List.set_cons_zero, List.set_cons_succ]
  refine take_q (i := 11) (v := ?_) rfl (by kernel_rfl) (by kernel_rfl) (by kernel_rfl) (fun _ _ _ h => h) (Or.inl ⟨by rfl, ?_⟩) (by assumption) ?_
  rotate_left
  · intro w hSw; (try dsimp only at hSw); go_simp; try with_reducible rfl
  try simp only [Act.put, List.setIfInBounds_toArray, List.set_cons_zero, List.set_cons_succ]
  refine take_q (i := 12) (v := ?_) rfl (by kernel_rfl) (by kernel_rfl) (by kernel_rfl) (fun _ _ _ h => h) (Or.inl ⟨by rfl, ?_⟩) (by assumption) ?_
  rotate_left
  · intro w hSw; (try dsimp only at hSw); go_simp; try with_reducible rfl
  try simp only [Act.put, List.setIfInBounds_toArray, List.set_cons_zero, List.set_cons_succ]
  refine wpAnyH_ready (rs := [17]) (by kernel_rfl) (by simp) ?_
  refine cons_q rfl (fun K hK => ?_) AllReadyH.nil
  go_simp
  with_reducible refine (HD2.out _).mono ?_; rintro e v2 ⟨rfl, hc_2⟩
  refine hK.out _ _ ?_ (fun hHeld => ?_)
  · exact HKS.out _ (by repeat (first | (with_reducible exact Below.refl _ _) | (with_reducible assumption) | (with_reducible refine bl_alloc ?_ _) | (with_reducible refine bl_drew ?_) | (with_reducible refine bl_drewN ?_ _) | (with_reducible refine bl_set ?_ (by first | (simp; done) | (simp; omega)) _) | (with_reducible refine bl_trans ?_ ‹_›)))
  clear hK K
  try simp only [Act.put, List.setIfInBounds_toArray, List.set_cons_zero, List.set_cons_succ]
  refine take_q (i := 18) (v := ?_) rfl (by kernel_rfl) (by kernel_rfl) (by kernel_rfl) (fun _ _ _ h => h) (Or.inl ⟨by rfl, ?_⟩) (by assumption) ?_
  rotate_left
  · intro w hSw; (try dsimp only at hSw); go_simp; try with_reducible rfl
  try simp only [Act.put, List.setIfInBounds_toArray, List.set_cons_zero, List.set_cons_succ]
  refine take_q (i := 19) (v := ?_) rfl (by kernel_rfl) (by kernel_rfl) (by kernel_rfl) (fun _ _ _ h => h) (Or.inl ⟨by rfl, ?_⟩) (by assumption) ?_
  rotate_left
  · intro w hSw; (try dsimp only at hSw); go_simp; try with_reducible rfl
  try simp only [Act.put, List.setIfInBounds_toArray, List.set_cons_zero, List.set_cons_succ]
  refine wpAnyH_ready (rs := [24]) (by kernel_rfl) (by simp) ?_
  refine cons_q rfl (fun K hK => ?_) AllReadyH.nil
  go_simp
  with_reducible refine (HD3.out _).mono ?_; rintro e v3 ⟨rfl, hc_3⟩
  refine hK.out _ _ ?_ (fun hHeld => ?_)
  · exact HKS.out _ (by repeat (first | (with_reducible exact Below.refl _ _) | (with_reducible assumption) | (with_reducible refine bl_alloc ?_ _) | (with_reducible refine bl_drew ?_) | (with_reducible refine bl_drewN ?_ _) | (with_reducible refine bl_set ?_ (by first | (simp; done) | (simp; omega)) _) | (with_reducible refine bl_trans ?_ ‹_›)))
  clear hK K
  try simp only [Act.put, List.setIfInBounds_toArray, List.set_cons_zero, List.set_cons_succ]
  refine take_q (i := 25) (v := ?_) rfl (by kernel_rfl) (by kernel_rfl) (by kernel_rfl) (fun _ _ _ h => h) (Or.inl ⟨by rfl, ?_⟩) (by assumption) ?_
  rotate_left
  · intro w hSw; (try dsimp only at hSw); go_simp; try with_reducible rfl
  try simp only [Act.put, List.setIfInBounds_toArray, List.set_cons_zero, List.set_cons_succ]
  refine take_q (i := 26) (v := ?_) rfl (by kernel_rfl) (by kernel_rfl) (by kernel_rfl) (fun _ _ _ h => h) (Or.inl ⟨by rfl, ?_⟩) (by assumption) ?_
  rotate_left
  · intro w hSw; (try dsimp only at hSw); go_simp; try with_reducible rfl
  try simp only [Act.put, List.setIfInBounds_toArray, List.set_cons_zero, List.set_cons_succ]
  refine wpAnyH_done (by kernel_rfl) ?_ _
  go_wp2_with fail
  go_ret
  exact ⟨by rw [HPR.out]; rfl, bl_trans hbel hHeld.2⟩
/-- the reference's text of any address is the program's -/
theorem rprint_c (v : Bool) (n : Nat) (w : World) (hn : n < 340282366920938463463374607431768211456) :
    Calls Tryd.prog 10 #[AddrV v n] w fun e w' => e = .returned (.string ⟨(printA v n).toArray⟩) ∧ Below w.heap.size w w' := by
  unfold printA
  by_cases hr : rightB v n = true
  · rw [if_pos hr]
    cases v
    · rw [if_neg (by simp)]; exact rprint4_c n w (right_false hr)
    · rw [if_pos rfl, ← print_alike (grps_len n)]; exact rprint6_c n w hn
  · rw [if_neg hr]
    exact rprint_no v n w hn (by simpa using hr)
end Go.Proofs.YtgdgklibilddgaaDoor
