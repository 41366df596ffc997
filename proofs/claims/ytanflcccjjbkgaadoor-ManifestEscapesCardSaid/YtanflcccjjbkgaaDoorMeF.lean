/- The lines of layer 30: Print of an object without lists. -/
import Derived.Test.YtanflcccjjbkgaaDoorMeE
import Derived.Test.YtanflcccjjbkgaaDoorLdq
namespace Go.Proofs.YtanflcccjjbkgaaDoor
open Go.RowKit

theorem fieldP_len (name : ByteArray) (b : Bool) (t : ByteArray) : (fieldP name b t).length ≤ 1 := by unfold fieldP; split <;> simp
/-- an object without lists, its numbers small -/
def plainOb (K : Nat) (name : ByteArray) (u vr : Nat) (status : ByteArray) (ty pl : Nat) (v4 v6 : ByteArray) (hb : Nat) (sel about reason : ByteArray) : Ob := ⟨K, name, u, vr, false, nilSl, nilSl, nilSl, status, ty, pl, nilSl, nilSl, v4, v6, hb, sel, about, reason⟩
def plainParts (K : Nat) (name : ByteArray) (u vr : Nat) (status : ByteArray) (ty pl : Nat) (v4 v6 : ByteArray) (hb : Nat) (sel about reason : ByteArray) : List ByteArray :=
  [wordS (K - 1), escT name] ++ fieldP ⟨#[117, 105, 100]⟩ (u != 0) (itoaT u) ++ fieldP ⟨#[118, 101, 114, 115, 105, 111, 110]⟩ (vr != 0) (itoaT vr) ++ fieldP ⟨#[115, 116, 97, 116, 117, 115]⟩ (!status.toList.isEmpty) (escT status) ++ fieldP ⟨#[116, 121, 112, 101]⟩ (ty != 0) (itoaT ty) ++ fieldP ⟨#[112, 111, 108, 105, 99, 121]⟩ (pl != 0) (itoaT pl) ++ fieldP ⟨#[118, 52]⟩ (!v4.toList.isEmpty) (escT v4) ++ fieldP ⟨#[118, 54]⟩ (!v6.toList.isEmpty) (escT v6) ++ fieldP ⟨#[98, 105, 116, 115]⟩ (hb != 0) (itoaT hb) ++ fieldP ⟨#[115, 101, 108, 101, 99, 116, 111, 114]⟩ (!sel.toList.isEmpty) (escT sel) ++ fieldP ⟨#[97, 98, 111, 117, 116]⟩ (!about.toList.isEmpty) (escT about) ++ fieldP ⟨#[114, 101, 97, 115, 111, 110]⟩ (!reason.toList.isEmpty) (escT reason)
/-- what is known while a line is laid -/
structure PrAt (w0 : World) (o : Ob) (B px m : Nat) (parts : List ByteArray) (w : World) : Prop where
  blk : Blk w w0.heap.size 46 (ObjC o)
  line : LineAt B px parts w
  below : Below w0.heap.size w0 w
  old : w0.heap.size < B
  base : B ≤ w.heap.size
  len : parts.length ≤ m
theorem PrAt.after {w0 : World} {o : Ob} {B px m : Nat} {parts more : List ByteArray} {w w' : World} (h : PrAt w0 o B px m parts w) (hl : LineAt B px (parts ++ more) w') (hb : Below B w w') (hm : more.length ≤ 1) : PrAt w0 o B px (m + 1) (parts ++ more) w' :=
  ⟨h.blk.below hb h.old, hl, h.below.trans (hb.mono (Nat.le_of_lt h.old)), h.old, Nat.le_trans h.base hb.size, by have := h.len; simp; omega⟩
theorem PrAt.drew {w0 : World} {o : Ob} {B px m : Nat} {parts : List ByteArray} {w : World} (h : PrAt w0 o B px m parts w) : PrAt w0 o B px m parts w.drew :=
  ⟨h.blk, h.line, h.below.drew, h.old, h.base, h.len⟩
theorem PrAt.same' {w0 : World} {o : Ob} {B px m : Nat} {parts : List ByteArray} {w w' : World} (h : PrAt w0 o B px m parts w) (hb : Below w.heap.size w w') : PrAt w0 o B px m parts w' :=
  ⟨h.blk.after hb, h.line.after hb, bl_trans h.below hb, h.old, Nat.le_trans h.base hb.size, h.len⟩
theorem PrAt.cell {w0 : World} {o : Ob} {B px m : Nat} {parts : List ByteArray} {w : World} (h : PrAt w0 o B px m parts w) (j : Nat) (v : Value) (hv : (ObjC o)[j]? = some v) : w.cell? ⟨w0.heap.size, j, none⟩ = some v := (h.blk.cell j).trans hv
theorem PrAt.same {w0 : World} {o : Ob} {B px m : Nat} {parts : List ByteArray} {w w' : World} (h : PrAt w0 o B px m parts w) (hl : LineAt B px parts w') (hb : Below B w w') : PrAt w0 o B px m parts w' :=
  ⟨h.blk.below hb h.old, hl, h.below.trans (hb.mono (Nat.le_of_lt h.old)), h.old, Nat.le_trans h.base hb.size, h.len⟩
set_option maxRecDepth 100000 in
set_option maxHeartbeats 3200000 in
theorem print_plain (K : Nat) (name : ByteArray) (u vr : Nat) (status : ByteArray) (ty pl : Nat) (v4 v6 : ByteArray) (hb : Nat) (sel about reason : ByteArray) (w : World) (hW : Words w)
    (h1 : 1 ≤ K) (h4 : K ≤ 4) (hu : u < 100) (hvr : vr < 100) (hty : ty < 100) (hpl : pl < 100) (hhb : hb < 100) (sn : name.size ≤ 1000) (ss : status.size ≤ 1000) (s4 : v4.size ≤ 1000) (s6 : v6.size ≤ 1000) (sl : sel.size ≤ 1000) (sa : about.size ≤ 1000) (sr : reason.size ≤ 1000)
    (hsh : shapeB (plainOb K name u vr status ty pl v4 v6 hb sel about reason) [] [] [] [] [] = true)
    (hJ : (Lib.join ((plainParts K name u vr status ty pl v4 v6 hb sel about reason).map (·.data.toList)) [32]).length ≤ 1000000) :
    Calls Tryd.prog 22 #[ObjV (plainOb K name u vr status ty pl v4 v6 hb sel about reason)] w fun e w' =>
      e = .returned (.tuple #[.string (⟨(Lib.join ((plainParts K name u vr status ty pl v4 v6 hb sel about reason).map (·.data.toList)) [32]).toArray⟩ ++ ⟨#[10]⟩), .int .i64 0]) ∧ Below w.heap.size w w' := by
  have HSH := Lib.hid (fun w => shape_c (plainOb K name u vr status ty pl v4 v6 hb sel about reason) w [] [] [] [] [] (readsNil w _ rfl rfl rfl rfl rfl))
  rw [hsh] at HSH
  have HJ := Lib.hid hJ
  clear hsh hJ
  have HWD := Lib.hid (fun (w : World) (h : Words w) => word_c (K : Int) w h)
  rw [if_pos (by omega), show (K : Int).toNat - 1 = K - 1 by omega] at HWD
  obtain ⟨TX, hTX⟩ : ∃ TX, (⟨(Lib.join ((plainParts K name u vr status ty pl v4 v6 hb sel about reason).map (·.data.toList)) [32]).toArray⟩ ++ ⟨#[10]⟩ : ByteArray) = TX := ⟨_, rfl⟩
  rw [hTX]
  have HTX := Lib.hid hTX
  clear hTX
  unfold plainParts at HJ HTX
  generalize hwd : wordS (K - 1) = wd at *
  rw [ObjV_eq]
  go_enter Tryd.func22, Tryd.ntmps22
  go_upto_region 1 with (fail)
  have hA : Blk (w.alloc (.cells (ObjC (plainOb K name u vr status ty pl v4 v6 hb sel about reason)) 46)) w.heap.size 46 (ObjC (plainOb K name u vr status ty pl v4 v6 hb sel about reason)) := Blk.new _ _ _
  have hbel : Below w.heap.size w (w.alloc (.cells (ObjC (plainOb K name u vr status ty pl v4 v6 hb sel about reason)) 46)) := (by repeat (first | (with_reducible exact Below.refl _ _) | (with_reducible assumption) | (with_reducible refine bl_alloc ?_ _) | (with_reducible refine bl_drew ?_) | (with_reducible refine bl_drewN ?_ _) | (with_reducible refine bl_set ?_ (by first | (simp; done) | (simp; omega)) _) | (with_reducible refine bl_trans ?_ ‹_›)))
  have hz : w.heap.size < (w.alloc (.cells (ObjC (plainOb K name u vr status ty pl v4 v6 hb sel about reason)) 46)).heap.size := by simp
  have hWz := hW.after hbel
  generalize w.alloc (.cells (ObjC (plainOb K name u vr status ty pl v4 v6 hb sel about reason)) 46) = wz at *
  go_wp2_with (refine wpList_load_row rfl 46 _ rfl w.heap.size rfl 46 (ObjC (plainOb K name u vr status ty pl v4 v6 hb sel about reason)) (0, 0) _ hA Tryd.underlying46 rfl (by kernel_rfl) ?_)
  refine (HSH.out _).mono ?_
  rintro e w1 ⟨rfl, hb1⟩
  have hA1 := hA.after hb1
  have hbel1 := bl_trans hbel hb1
  have hW1 := hWz.after hb1
  have hz1 : w.heap.size < w1.heap.size := Nat.lt_of_lt_of_le hz hb1.size
  clear hA hbel hWz hb1 hz HSH
  have c0 : w1.cell? ⟨w.heap.size, 0, none⟩ = some (.int .i64 (K : Int)) := hA1.cell 0
  go_wp2_with fail
  refine (HWD.out _ hW1).mono ?_
  rintro e w2 ⟨rfl, hb2⟩
  have hA2 := hA1.after hb2
  have hbel2 := bl_trans hbel1 hb2
  have hz2 : w.heap.size < w2.heap.size := Nat.lt_of_lt_of_le hz1 hb2.size
  clear hA1 hbel1 hW1 hb2 hz1 HWD c0
  have c1 : w2.cell? ⟨w.heap.size, 1, none⟩ = some (.string name) := hA2.cell 1
  go_wp2_with fail
  refine (escape_c name _ (by omega)).mono ?_
  rintro e w3 ⟨rfl, hb3⟩
  have hA3 := hA2.after hb3
  have hbel3 := bl_trans hbel2 hb3
  have hz3 : w.heap.size < w3.heap.size := Nat.lt_of_lt_of_le hz2 hb3.size
  clear hA2 hbel2 hb3 hz2 c1
  have e2 : ∀ o1 o2, ((w3.alloc o1).alloc o2).cell? ⟨w.heap.size, 2, none⟩ = some (.int .i64 (u : Int)) := fun o1 o2 => ((hA3.alloc o1).alloc o2).cell 2
  go_wp2_with fail
  have hP : PrAt w (plainOb K name u vr status ty pl v4 v6 hb sel about reason) w3.heap.size (w3.heap.size + 1) 2 [wd, escT name] ((w3.alloc (.cells #[.string wd, .string (strOfNums (escL (numsS name)))] 9)).alloc (.cells #[.slice (some ⟨w3.heap.size, 0, none⟩) 2 2] 80)) := by
    refine ⟨(hA3.alloc _).alloc _, ⟨by omega, _, Blk.new' _ _ _ _ (by simp), ?_⟩, bl_alloc (bl_alloc hbel3 _) _, hz3, by simp; omega, by simp⟩
    refine World.ownsRow.alloc ?_ _
    exact ⟨rfl, .inr ⟨w3.heap.size, 2, _, rfl, Nat.le_refl _, Blk.new _ _ _, Nat.le_refl _, by simp [maxLen], rfl, rfl⟩⟩
  clear hA3 hbel3 hz3 e2
  generalize (w3.alloc (.cells #[.string wd, .string (strOfNums (escL (numsS name)))] 9)).alloc (.cells #[.slice (some ⟨w3.heap.size, 0, none⟩) 2 2] 80) = wq at *
  generalize w3.heap.size + 1 = px at *
  generalize w3.heap.size = B at *
  have e2 := hP.cell 2 (.int .i64 (u : Int)) rfl
  go_wp2_with fail
  refine (number_c B px _ ⟨#[117, 105, 100]⟩ u _ hu hP.line (by have := hP.len; omega) hP.base (by decide)).mono ?_
  rintro e wp1 ⟨rfl, hl, hbn⟩
  replace hP := hP.after hl hbn (fieldP_len _ _ _)
  clear hl hbn e2
  have e3 := hP.cell 3 (.int .i64 (vr : Int)) rfl
  go_wp2_with fail
  refine (number_c B px _ ⟨#[118, 101, 114, 115, 105, 111, 110]⟩ vr _ hvr hP.line (by have := hP.len; omega) hP.base (by decide)).mono ?_
  rintro e wp2 ⟨rfl, hl, hbn⟩
  replace hP := hP.after hl hbn (fieldP_len _ _ _)
  clear hl hbn e3
  have e4 := hP.cell 4 (.bool false) rfl
  have e5 := hP.cell 5 (.slice none 0 0) rfl
  go_wp2_with fail
  refine (texts_nil B px _ ⟨#[102, 105, 110, 97, 108, 105, 122, 101, 114, 115]⟩ _ hP.line hP.base).mono ?_
  rintro e wp4 ⟨rfl, hl, hbn⟩
  replace hP := hP.same hl hbn
  clear hl hbn e5 e4
  go_upto_region 10 with (fail)
  refine wp_region_held_drew (S := fun w' => w'.cell? ⟨w.heap.size, 6, none⟩ = some (.slice none 0 0) ∧ PrAt w (plainOb K name u vr status ty pl v4 v6 hb sel about reason) B px 4 ([wd, escT name] ++ fieldP ⟨#[117, 105, 100]⟩ (u != 0) (itoaT u) ++ fieldP ⟨#[118, 101, 114, 115, 105, 111, 110]⟩ (vr != 0) (itoaT vr)) w') (by kernel_rfl) ?_ (fun hHeld => ?_)
  · (first | exact ⟨hPn.cell 6 _ rfl, hPn⟩ | exact ⟨hP.drew.cell 6 _ rfl, hP.drew⟩)
  refine take_q (i := 0) (v := ?_) rfl (by kernel_rfl) (by kernel_rfl) (by kernel_rfl) (fun _ _ _ h => h) (Or.inl ⟨by rfl, ?_⟩) (by assumption) ?_
  rotate_left
  · intro w hSw; (try dsimp only at hSw); go_simp; try with_reducible rfl
  try simp only [Act.put, List.setIfInBounds_toArray, List.set_cons_zero, List.set_cons_succ]
  refine take_q (i := 1) (v := ?_) rfl (by kernel_rfl) (by kernel_rfl) (by kernel_rfl) (fun _ _ _ h => h) (Or.inl ⟨by rfl, ?_⟩) (by assumption) ?_
  rotate_left
  · intro w hSw; (try dsimp only at hSw); go_simp; try with_reducible rfl
  try simp only [Act.put, List.setIfInBounds_toArray, List.set_cons_zero, List.set_cons_succ]
  refine take_q (i := 2) (v := ?_) rfl (by kernel_rfl) (by kernel_rfl) (by kernel_rfl) (fun _ _ _ h => h) (Or.inl ⟨by rfl, ?_⟩) (by assumption) ?_
  rotate_left
  · intro w hSw; (try dsimp only at hSw); go_simp; try with_reducible rfl
  try simp only [Act.put, List.setIfInBounds_toArray, List.set_cons_zero, List.set_cons_succ]
  refine take_q (i := 3) (v := ?_) rfl (by kernel_rfl) (by kernel_rfl) (by kernel_rfl) (fun _ _ _ h => h) (Or.inl ⟨by rfl, ?_⟩) (by assumption) ?_
  rotate_left
  · intro w hSw; (try dsimp only at hSw); go_simp; try with_reducible rfl
  try simp only [Act.put, List.setIfInBounds_toArray, List.set_cons_zero, List.set_cons_succ]
  refine take_q (i := 4) (v := ?_) rfl (by kernel_rfl) (by kernel_rfl) (by kernel_rfl) (fun _ _ _ h => h) (Or.inl ⟨by rfl, ?_⟩) (by assumption) ?_
  rotate_left
  · intro w hSw; (try dsimp only at hSw); go_simp; try with_reducible rfl
  try simp only [Act.put, List.setIfInBounds_toArray, List.set_cons_zero, List.set_cons_succ]
  refine take_q (i := 5) (v := ?_) rfl (by kernel_rfl) (by kernel_rfl) (by kernel_rfl) (fun _ _ _ h => h) (Or.inl ⟨by rfl, ?_⟩) (by assumption) ?_
  rotate_left
  · intro w hSw; (try dsimp only at hSw); go_simp; try with_reducible rfl
  try simp only [Act.put, List.setIfInBounds_toArray, List.set_cons_zero, List.set_cons_succ]
  refine take_q (i := 6) (v := ?_) rfl (by kernel_rfl) (by kernel_rfl) (by kernel_rfl) (fun _ _ _ h => h) (Or.inl ⟨by rfl, ?_⟩) (by assumption) ?_
  rotate_left
  · intro w hSw; (try dsimp only at hSw); go_simp; try with_reducible rfl
  try simp only [Act.put, List.setIfInBounds_toArray, List.set_cons_zero, List.set_cons_succ]
  refine wpAnyH_ready (rs := [7]) (by kernel_rfl) (by simp) ?_
  refine cons_q rfl (fun K hK => ?_) AllReadyH.nil
  go_simp
  refine (listP_nil _ _).mono ?_; rintro e wp5a ⟨rfl, hbn⟩; have hPn := hHeld.2.same' hbn
  refine hK.out _ _ ?_ (fun hHeld => ?_)
  · (first | exact ⟨hPn.cell 6 _ rfl, hPn⟩ | exact ⟨hP.drew.cell 6 _ rfl, hP.drew⟩)
  clear hK K
  try simp only [Act.put, List.setIfInBounds_toArray, List.set_cons_zero, List.set_cons_succ]
  refine wpAnyH_ready (rs := [8]) (by kernel_rfl) (by simp) ?_
  refine cons_q rfl (fun K hK => ?_) AllReadyH.nil
  go_simp
  refine (put_no px ⟨#[108, 97, 98, 101, 108, 115]⟩ _ _).mono ?_; rintro e wp5 ⟨rfl, rfl⟩
  refine hK.out _ _ ?_ (fun hHeld => ?_)
  · (first | exact ⟨hPn.cell 6 _ rfl, hPn⟩ | exact ⟨hP.drew.cell 6 _ rfl, hP.drew⟩)
  clear hK K
  try simp only [Act.put, List.setIfInBounds_toArray, List.set_cons_zero, List.set_cons_succ]
  refine wpAnyH_done (by kernel_rfl) ?_ _
  replace hP := hHeld.2
  clear hHeld
  (try clear hPn)
  have e7 := hP.cell 7 (.slice none 0 0) rfl
  go_wp2_with fail
  refine (texts_nil B px _ ⟨#[99, 105, 100, 114, 115]⟩ _ hP.line hP.base).mono ?_
  rintro e wp6 ⟨rfl, hl, hbn⟩
  replace hP := hP.same hl hbn
  clear hl hbn e7
  have e8 := hP.cell 8 (.string status) rfl
  go_wp2_with fail
  refine (text_c B px _ ⟨#[115, 116, 97, 116, 117, 115]⟩ status _ (by omega) hP.line (by have := hP.len; omega) hP.base (by decide)).mono ?_
  rintro e wp7 ⟨rfl, hl, hbn⟩
  replace hP := hP.after hl hbn (fieldP_len _ _ _)
  clear hl hbn e8
  have e9 := hP.cell 9 (.int .i64 (ty : Int)) rfl
  go_wp2_with fail
  refine (number_c B px _ ⟨#[116, 121, 112, 101]⟩ ty _ hty hP.line (by have := hP.len; omega) hP.base (by decide)).mono ?_
  rintro e wp8 ⟨rfl, hl, hbn⟩
  replace hP := hP.after hl hbn (fieldP_len _ _ _)
  clear hl hbn e9
  have e10 := hP.cell 10 (.int .i64 (pl : Int)) rfl
  go_wp2_with fail
  refine (number_c B px _ ⟨#[112, 111, 108, 105, 99, 121]⟩ pl _ hpl hP.line (by have := hP.len; omega) hP.base (by decide)).mono ?_
  rintro e wp9 ⟨rfl, hl, hbn⟩
  replace hP := hP.after hl hbn (fieldP_len _ _ _)
  clear hl hbn e10
  go_upto_region 15 with (fail)
  refine wp_region_held_drew (S := fun w' => w'.cell? ⟨w.heap.size, 11, none⟩ = some (.slice none 0 0) ∧ PrAt w (plainOb K name u vr status ty pl v4 v6 hb sel about reason) B px 7 ([wd, escT name] ++ fieldP ⟨#[117, 105, 100]⟩ (u != 0) (itoaT u) ++ fieldP ⟨#[118, 101, 114, 115, 105, 111, 110]⟩ (vr != 0) (itoaT vr) ++ fieldP ⟨#[115, 116, 97, 116, 117, 115]⟩ (!status.toList.isEmpty) (escT status) ++ fieldP ⟨#[116, 121, 112, 101]⟩ (ty != 0) (itoaT ty) ++ fieldP ⟨#[112, 111, 108, 105, 99, 121]⟩ (pl != 0) (itoaT pl)) w') (by kernel_rfl) ?_ (fun hHeld => ?_)
  · (first | exact ⟨hPn.cell 11 _ rfl, hPn⟩ | exact ⟨hP.drew.cell 11 _ rfl, hP.drew⟩)
  refine take_q (i := 0) (v := ?_) rfl (by kernel_rfl) (by kernel_rfl) (by kernel_rfl) (fun _ _ _ h => h) (Or.inl ⟨by rfl, ?_⟩) (by assumption) ?_
  rotate_left
  · intro w hSw; (try dsimp only at hSw); go_simp; try with_reducible rfl
  try simp only [Act.put, List.setIfInBounds_toArray, List.set_cons_zero, List.set_cons_succ]
  refine take_q (i := 1) (v := ?_) rfl (by kernel_rfl) (by kernel_rfl) (by kernel_rfl) (fun _ _ _ h => h) (Or.inl ⟨by rfl, ?_⟩) (by assumption) ?_
  rotate_left
  · intro w hSw; (try dsimp only at hSw); go_simp; try with_reducible rfl
  try simp only [Act.put, List.setIfInBounds_toArray, List.set_cons_zero, List.set_cons_succ]
  refine take_q (i := 2) (v := ?_) rfl (by kernel_rfl) (by kernel_rfl) (by kernel_rfl) (fun _ _ _ h => h) (Or.inl ⟨by rfl, ?_⟩) (by assumption) ?_
  rotate_left
  · intro w hSw; (try dsimp only at hSw); go_simp; try with_reducible rfl
  try simp only [Act.put, List.setIfInBounds_toArray, List.set_cons_zero, List.set_cons_succ]
  refine take_q (i := 3) (v := ?_) rfl (by kernel_rfl) (by kernel_rfl) (by kernel_rfl) (fun _ _ _ h => h) (Or.inl ⟨by rfl, ?_⟩) (by assumption) ?_
  rotate_left
  · intro w hSw; (try dsimp only at hSw); go_simp; try with_reducible rfl
  try simp only [Act.put, List.setIfInBounds_toArray, List.set_cons_zero, List.set_cons_succ]
  refine take_q (i := 4) (v := ?_) rfl (by kernel_rfl) (by kernel_rfl) (by kernel_rfl) (fun _ _ _ h => h) (Or.inl ⟨by rfl, ?_⟩) (by assumption) ?_
  rotate_left
  · intro w hSw; (try dsimp only at hSw); go_simp; try with_reducible rfl
  try simp only [Act.put, List.setIfInBounds_toArray, List.set_cons_zero, List.set_cons_succ]
  refine take_q (i := 5) (v := ?_) rfl (by kernel_rfl) (by kernel_rfl) (by kernel_rfl) (fun _ _ _ h => h) (Or.inl ⟨by rfl, ?_⟩) (by assumption) ?_
  rotate_left
  · intro w hSw; (try dsimp only at hSw); go_simp; try with_reducible rfl
  try simp only [Act.put, List.setIfInBounds_toArray, List.set_cons_zero, List.set_cons_succ]
  refine take_q (i := 6) (v := ?_) rfl (by kernel_rfl) (by kernel_rfl) (by kernel_rfl) (fun _ _ _ h => h) (Or.inl ⟨by rfl, ?_⟩) (by assumption) ?_
  rotate_left
  · intro w hSw; (try dsimp only at hSw); go_simp; try with_reducible rfl
  try simp only [Act.put, List.setIfInBounds_toArray, List.set_cons_zero, List.set_cons_succ]
  refine wpAnyH_ready (rs := [7]) (by kernel_rfl) (by simp) ?_
  refine cons_q rfl (fun K hK => ?_) AllReadyH.nil
  go_simp
  refine (listI_nil _ _).mono ?_; rintro e wp10a ⟨rfl, hbn⟩; have hPn := hHeld.2.same' hbn
  refine hK.out _ _ ?_ (fun hHeld => ?_)
  · (first | exact ⟨hPn.cell 11 _ rfl, hPn⟩ | exact ⟨hP.drew.cell 11 _ rfl, hP.drew⟩)
  clear hK K
  try simp only [Act.put, List.setIfInBounds_toArray, List.set_cons_zero, List.set_cons_succ]
  refine wpAnyH_ready (rs := [8]) (by kernel_rfl) (by simp) ?_
  refine cons_q rfl (fun K hK => ?_) AllReadyH.nil
  go_simp
  refine (put_no px ⟨#[102, 97, 109, 105, 108, 105, 101, 115]⟩ _ _).mono ?_; rintro e wp10 ⟨rfl, rfl⟩
  refine hK.out _ _ ?_ (fun hHeld => ?_)
  · (first | exact ⟨hPn.cell 11 _ rfl, hPn⟩ | exact ⟨hP.drew.cell 11 _ rfl, hP.drew⟩)
  clear hK K
  try simp only [Act.put, List.setIfInBounds_toArray, List.set_cons_zero, List.set_cons_succ]
  refine wpAnyH_done (by kernel_rfl) ?_ _
  replace hP := hHeld.2
  clear hHeld
  (try clear hPn)
  have e12 := hP.cell 12 (.slice none 0 0) rfl
  go_wp2_with fail
  refine (texts_nil B px _ ⟨#[105, 112, 115]⟩ _ hP.line hP.base).mono ?_
  rintro e wp11 ⟨rfl, hl, hbn⟩
  replace hP := hP.same hl hbn
  clear hl hbn e12
  have e13 := hP.cell 13 (.string v4) rfl
  go_wp2_with fail
  refine (text_c B px _ ⟨#[118, 52]⟩ v4 _ (by omega) hP.line (by have := hP.len; omega) hP.base (by decide)).mono ?_
  rintro e wp12 ⟨rfl, hl, hbn⟩
  replace hP := hP.after hl hbn (fieldP_len _ _ _)
  clear hl hbn e13
  have e14 := hP.cell 14 (.string v6) rfl
  go_wp2_with fail
  refine (text_c B px _ ⟨#[118, 54]⟩ v6 _ (by omega) hP.line (by have := hP.len; omega) hP.base (by decide)).mono ?_
  rintro e wp13 ⟨rfl, hl, hbn⟩
  replace hP := hP.after hl hbn (fieldP_len _ _ _)
  clear hl hbn e14
  have e15 := hP.cell 15 (.int .i64 (hb : Int)) rfl
  go_wp2_with fail
  refine (number_c B px _ ⟨#[98, 105, 116, 115]⟩ hb _ hhb hP.line (by have := hP.len; omega) hP.base (by decide)).mono ?_
  rintro e wp14 ⟨rfl, hl, hbn⟩
  replace hP := hP.after hl hbn (fieldP_len _ _ _)
  clear hl hbn e15
  have e16 := hP.cell 16 (.string sel) rfl
  go_wp2_with fail
  refine (text_c B px _ ⟨#[115, 101, 108, 101, 99, 116, 111, 114]⟩ sel _ (by omega) hP.line (by have := hP.len; omega) hP.base (by decide)).mono ?_
  rintro e wp15 ⟨rfl, hl, hbn⟩
  replace hP := hP.after hl hbn (fieldP_len _ _ _)
  clear hl hbn e16
  have e17 := hP.cell 17 (.string about) rfl
  go_wp2_with fail
  refine (text_c B px _ ⟨#[97, 98, 111, 117, 116]⟩ about _ (by omega) hP.line (by have := hP.len; omega) hP.base (by decide)).mono ?_
  rintro e wp16 ⟨rfl, hl, hbn⟩
  replace hP := hP.after hl hbn (fieldP_len _ _ _)
  clear hl hbn e17
  have e18 := hP.cell 18 (.string reason) rfl
  go_wp2_with fail
  refine (text_c B px _ ⟨#[114, 101, 97, 115, 111, 110]⟩ reason _ (by omega) hP.line (by have := hP.len; omega) hP.base (by decide)).mono ?_
  rintro e wp17 ⟨rfl, hl, hbn⟩
  replace hP := hP.after hl hbn (fieldP_len _ _ _)
  clear hl hbn e18
  obtain ⟨PP, hPP⟩ : ∃ PP, ([wd, escT name] ++ fieldP ⟨#[117, 105, 100]⟩ (u != 0) (itoaT u) ++ fieldP ⟨#[118, 101, 114, 115, 105, 111, 110]⟩ (vr != 0) (itoaT vr) ++ fieldP ⟨#[115, 116, 97, 116, 117, 115]⟩ (!status.toList.isEmpty) (escT status) ++ fieldP ⟨#[116, 121, 112, 101]⟩ (ty != 0) (itoaT ty) ++ fieldP ⟨#[112, 111, 108, 105, 99, 121]⟩ (pl != 0) (itoaT pl) ++ fieldP ⟨#[118, 52]⟩ (!v4.toList.isEmpty) (escT v4) ++ fieldP ⟨#[118, 54]⟩ (!v6.toList.isEmpty) (escT v6) ++ fieldP ⟨#[98, 105, 116, 115]⟩ (hb != 0) (itoaT hb) ++ fieldP ⟨#[115, 101, 108, 101, 99, 116, 111, 114]⟩ (!sel.toList.isEmpty) (escT sel) ++ fieldP ⟨#[97, 98, 111, 117, 116]⟩ (!about.toList.isEmpty) (escT about) ++ fieldP ⟨#[114, 101, 97, 115, 111, 110]⟩ (!reason.toList.isEmpty) (escT reason)) = PP := ⟨_, rfl⟩
  have hne : 0 < PP.length := by rw [← hPP]; simp
  have HJ2 := HJ.out
  rw [hPP] at hP HJ2
  have HPP := Lib.hid hPP
  have HJ3 := Lib.hid HJ2
  clear hPP HJ HJ2
  have hlen := hP.len
  have hbel := hP.below
  obtain ⟨_, v, hv, hown⟩ := hP.line
  obtain ⟨gl, cl, rfl, hgl0, hgl1, hcap, hcl, _⟩ := own_form hown hne
  have ec := hv.cell 0
  simp at ec
  have hcells : ∀ (j : Nat) x, PP[j]? = some x → wp17.cell? ⟨gl, 0 + j, none⟩ = some (.string x) := by
    intro j x hx
    rw [Nat.zero_add]
    exact hcl j _ (by simp [strsV, hx])
  have HC := Lib.hid hcells
  clear hcl hv hown hcells hP
  go_wp2_with fail
  refine (Tryd.strings_Join gl 0 cl PP ⟨#[32]⟩ _ HC.out hgl1 (by omega) hcap (by have := HJ3.out; exact Nat.le_trans this (by omega))).mono ?_
  rintro e w20 ⟨rfl, hb20⟩
  have hbel2 := bl_trans hbel hb20
  have hsz : (⟨(Lib.join (PP.map (·.data.toList)) (⟨#[32]⟩ : ByteArray).data.toList).toArray⟩ : ByteArray).size ≤ 1000000 := by have := HJ3.out; show (Lib.join (PP.map (·.data.toList)) [32]).toArray.size ≤ _; simpa using this
  generalize hR : (⟨(Lib.join (PP.map (·.data.toList)) (⟨#[32]⟩ : ByteArray).data.toList).toArray⟩ : ByteArray) = R at *
  have HR := Lib.hid hR
  clear hR
  go_wp2_with fail
  go_ret2
  exact ⟨by rw [← HTX.out, HPP.out, ← HR.out]; rfl, hbel2⟩
end Go.Proofs.YtanflcccjjbkgaaDoor
