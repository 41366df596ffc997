/- Objects: flatten, bare. -/
import Derived.Test.YtanflcccjjbkgaaDoorObB
import Derived.Laws.StructEq
import Derived.Laws.Rows
import Derived.Laws.Tables
import Derived.Deep.Cut
import Derived.Deep.DeepCutAuto
import Derived.Deep.CutBlock
namespace Go.Proofs.YtanflcccjjbkgaaDoor
open Go.RowKit

/-- a slice -/
structure Sl where
  a : Option Addr
  n : Nat
  c : Nat
def Sl.v (x : Sl) : Value := .slice x.a x.n x.c
/-- an object: its fields -/
structure Ob where
  kind : Int
  name : ByteArray
  uid : Int
  ver : Int
  del : Bool
  fin : Sl
  lab : Sl
  cid : Sl
  status : ByteArray
  type : Int
  pol : Int
  fam : Sl
  ips : Sl
  v4 : ByteArray
  v6 : ByteArray
  hb : Int
  sel : ByteArray
  about : ByteArray
  reason : ByteArray
def ObjV (o : Ob) : Value := .agg #[.int .i64 o.kind, .string o.name, .int .i64 o.uid, .int .i64 o.ver, .bool o.del, .slice o.fin.a o.fin.n o.fin.c, .slice o.lab.a o.lab.n o.lab.c, .slice o.cid.a o.cid.n o.cid.c, .string o.status, .int .i64 o.type, .int .i64 o.pol, .slice o.fam.a o.fam.n o.fam.c, .slice o.ips.a o.ips.n o.ips.c, .string o.v4, .string o.v6, .int .i64 o.hb, .string o.sel, .string o.about, .string o.reason]
def nilSl : Sl := ⟨none, 0, 0⟩
def emp : ByteArray := ⟨#[]⟩
def nullOb : Ob := ⟨0, emp, 0, 0, false, nilSl, nilSl, nilSl, emp, 0, 0, nilSl, nilSl, emp, emp, 0, emp, emp, emp⟩
def FlatV (o : Ob) : Value := .agg #[.int .i64 o.kind, .int .i64 o.uid, .int .i64 o.ver, .int .i64 o.type, .int .i64 o.pol, .int .i64 o.hb, .bool o.del, .string o.name, .string o.status, .string o.v4, .string o.v6, .string o.sel, .string o.about, .string o.reason]
/-- what is left without the fields of its kind -/
def bareO (o : Ob) : Ob :=
  if o.kind = 1 then ⟨0, emp, 0, 0, false, nilSl, nilSl, nilSl, emp, o.type, o.pol, o.fam, o.ips, o.v4, o.v6, o.hb, o.sel, o.about, o.reason⟩
  else if o.kind = 2 then ⟨0, emp, 0, 0, false, nilSl, nilSl, o.cid, o.status, 0, 0, nilSl, nilSl, o.v4, o.v6, o.hb, o.sel, o.about, o.reason⟩
  else if o.kind = 3 then ⟨0, emp, 0, 0, false, nilSl, nilSl, o.cid, o.status, o.type, o.pol, o.fam, o.ips, emp, emp, 0, emp, o.about, o.reason⟩
  else ⟨0, emp, 0, 0, false, nilSl, nilSl, o.cid, o.status, o.type, o.pol, o.fam, o.ips, o.v4, o.v6, o.hb, o.sel, emp, emp⟩
set_option maxRecDepth 100000 in
theorem flatten_c (o : Ob) (w : World) :
    Calls Tryd.prog 62 #[ObjV o] w fun e w' => e = .returned (FlatV o) ∧ Below w.heap.size w w' := by
  obtain ⟨kind, name, uid, ver, del, ⟨fa, fn, fc⟩, ⟨la, ln, lc⟩, ⟨ca, cn, cc⟩, status, type, pol, ⟨ma, mn, mc⟩, ⟨ia, ni, ic⟩, v4, v6, hb, sel, about, reason⟩ := o
  unfold ObjV
  go_enter Tryd.func62, Tryd.ntmps62
  go_wp2_with fail
  refine bodyPost_ret (results_cell_row (t := 102) Tryd.results62 _ _ (w.heap.size + 1) _ (0, 0) _ rfl (heap_alloc2_new _ _ _) Tryd.underlying102 rfl (by kernel_rfl)) rfl ⟨rfl, (by repeat (first | (with_reducible exact Below.refl _ _) | (with_reducible assumption) | (with_reducible refine bl_alloc ?_ _) | (with_reducible refine bl_drew ?_) | (with_reducible refine bl_drewN ?_ _) | (with_reducible refine bl_set ?_ (by first | (simp; done) | (simp; omega)) _) | (with_reducible refine bl_trans ?_ ‹_›)))⟩
theorem Blk.setRow {w : World} {g : Nat} {t : TypeId} {cs : Array Value} (h : Blk w g t cs) (cs' : Array Value) : Blk (w.setRow g cs') g t cs' := setRow_heap w g cs cs' t (0, 0) h
theorem bl_setRow {a w : World} (h : Below a.heap.size a w) {g : Nat} (hg : a.heap.size ≤ g) (cs : Array Value) : Below a.heap.size a (w.setRow g cs) :=
  ⟨h.os, h.tape, h.output, by simpa using h.size, fun k hk => (setRow_other w g k cs (by omega)).trans (h.block k hk)⟩
set_option maxRecDepth 100000 in
set_option maxHeartbeats 1600000 in
theorem bare1_c (o : Ob) (hk : o.kind = 1) (w : World) :
    Calls Tryd.prog 68 #[ObjV o] w fun e w' => e = .returned (ObjV (bareO o)) ∧ Below w.heap.size w w' := by
  obtain ⟨kind, name, uid, ver, del, ⟨fa, fn, fc⟩, ⟨la, ln, lc⟩, ⟨ca, cn, cc⟩, status, type, pol, ⟨ma, mn, mc⟩, ⟨ia, ni, ic⟩, v4, v6, hb, sel, about, reason⟩ := o
  simp only at hk
  subst hk
  have hres : ObjV (bareO ⟨1, name, uid, ver, del, ⟨fa, fn, fc⟩, ⟨la, ln, lc⟩, ⟨ca, cn, cc⟩, status, type, pol, ⟨ma, mn, mc⟩, ⟨ia, ni, ic⟩, v4, v6, hb, sel, about, reason⟩) = .agg #[.int .i64 0, .string ⟨#[]⟩, .int .i64 0, .int .i64 0, .bool false, .slice none 0 0, .slice none 0 0, .slice none 0 0, .string ⟨#[]⟩, .int .i64 type, .int .i64 pol, .slice ma mn mc, .slice ia ni ic, .string v4, .string v6, .int .i64 hb, .string sel, .string about, .string reason] := rfl
  rw [hres]
  clear hres
  unfold ObjV
  go_enter Tryd.func68, Tryd.ntmps68
  go_upto_region 1 with (fail)
  go_cut [3, 4, 5] (fun s3 s4 s5 wc => s3 = .int .i64 1 ∧ Blk wc w.heap.size 46 #[.int .i64 1, .string name, .int .i64 uid, .int .i64 ver, .bool del, .slice fa fn fc, .slice la ln lc, .slice ca cn cc, .string status, .int .i64 type, .int .i64 pol, .slice ma mn mc, .slice ia ni ic, .string v4, .string v6, .int .i64 hb, .string sel, .string about, .string reason] ∧ Blk wc (w.heap.size + 1) 46 #[.int .i64 0, .string ⟨#[]⟩, .int .i64 0, .int .i64 0, .bool false, .slice none 0 0, .slice none 0 0, .slice none 0 0, .string ⟨#[]⟩, .int .i64 0, .int .i64 0, .slice none 0 0, .slice none 0 0, .string ⟨#[]⟩, .string ⟨#[]⟩, .int .i64 0, .string ⟨#[]⟩, .string ⟨#[]⟩, .string ⟨#[]⟩] ∧ Below w.heap.size w wc)
  case first =>
    go_wp2_with fail
    go_meet
    case rel => exact ⟨rfl, Blk.alloc (Blk.new _ _ _) _, Blk.new' _ _ _ _ (by simp), (by repeat (first | (with_reducible exact Below.refl _ _) | (with_reducible assumption) | (with_reducible refine bl_alloc ?_ _) | (with_reducible refine bl_drew ?_) | (with_reducible refine bl_drewN ?_ _) | (with_reducible refine bl_set ?_ (by first | (simp; done) | (simp; omega)) _) | (with_reducible refine bl_trans ?_ ‹_›)))⟩
  case rest =>
    obtain ⟨rfl, hB, hR, hbel⟩ := hcut
    have c0 := hB.cell 0
    have z0 := hB.frozen 0
    have c1 := hB.cell 1
    have z1 := hB.frozen 1
    have c2 := hB.cell 2
    have z2 := hB.frozen 2
    have c3 := hB.cell 3
    have z3 := hB.frozen 3
    have c4 := hB.cell 4
    have z4 := hB.frozen 4
    have c5 := hB.cell 5
    have z5 := hB.frozen 5
    have c6 := hB.cell 6
    have z6 := hB.frozen 6
    simp at c0 c1 c2 c3 c4 c5 c6
    go_upto_region 2 with (fail)
    go_cut [6, 7, 8, 9, 10, 11, 12] (fun s6 s7 s8 s9 s10 s11 s12 wd => Blk wd w.heap.size 46 #[.int .i64 0, .string ⟨#[]⟩, .int .i64 0, .int .i64 0, .bool false, .slice none 0 0, .slice none 0 0, .slice ca cn cc, .string status, .int .i64 type, .int .i64 pol, .slice ma mn mc, .slice ia ni ic, .string v4, .string v6, .int .i64 hb, .string sel, .string about, .string reason] ∧ Blk wd (w.heap.size + 1) 46 #[.int .i64 0, .string ⟨#[]⟩, .int .i64 0, .int .i64 0, .bool false, .slice none 0 0, .slice none 0 0, .slice none 0 0, .string ⟨#[]⟩, .int .i64 0, .int .i64 0, .slice none 0 0, .slice none 0 0, .string ⟨#[]⟩, .string ⟨#[]⟩, .int .i64 0, .string ⟨#[]⟩, .string ⟨#[]⟩, .string ⟨#[]⟩] ∧ Below w.heap.size w wd)
    case first =>
      go_wp2_with fail
      go_meet
      case rel => exact ⟨(((((((hB.put 0 _).put 1 _).put 2 _).put 3 _).put 4 _).put 5 _).put 6 _), (by repeat (first | (with_reducible assumption) | (with_reducible refine blk_fill (u := .int .u64 0) (v := .int .u64 0) ?_) | (with_reducible refine Blk.drew ?_) | (with_reducible refine Blk.new' _ _ _ _ (by first | (with_reducible rfl) | (simp; done))) | (with_reducible refine Blk.alloc ?_ _) | (with_reducible refine Blk.after ?_ ‹_›) | (with_reducible refine Blk.far ?_ (by first | (simp; done) | (simp; omega)) _))), (by repeat (first | (with_reducible exact Below.refl _ _) | (with_reducible assumption) | (with_reducible refine bl_alloc ?_ _) | (with_reducible refine bl_drew ?_) | (with_reducible refine bl_drewN ?_ _) | (with_reducible refine bl_set ?_ (by first | (simp; done) | (simp; omega)) _) | (with_reducible refine bl_trans ?_ ‹_›)))⟩
    case rest =>
      clear hB hR hbel c0 z0 c1 z1 c2 z2 c3 z3 c4 z4 c5 z5 c6 z6
      obtain ⟨hB, hR, hbel⟩ := hcut
      have c7 := hB.cell 7
      have z7 := hB.frozen 7
      have c8 := hB.cell 8
      have z8 := hB.frozen 8
      simp at c7 c8
      have hB2 : Blk ((wc.setCell ⟨w.heap.size, 7, none⟩ (.slice none 0 0)).setCell ⟨w.heap.size, 8, none⟩ (.string ⟨#[]⟩)) w.heap.size 46 #[.int .i64 0, .string ⟨#[]⟩, .int .i64 0, .int .i64 0, .bool false, .slice none 0 0, .slice none 0 0, .slice none 0 0, .string ⟨#[]⟩, .int .i64 type, .int .i64 pol, .slice ma mn mc, .slice ia ni ic, .string v4, .string v6, .int .i64 hb, .string sel, .string about, .string reason] := ((hB.put 7 (.slice none 0 0)).put 8 (.string ⟨#[]⟩))
      have HB2 := Lib.hid hB2
      have hR2 := (Blk.far (Blk.far hR (p := ⟨w.heap.size, 7, none⟩) (by simp) (.slice none 0 0)) (p := ⟨w.heap.size, 8, none⟩) (by simp) (.string ⟨#[]⟩))
      have HR := Lib.hid hR2
      clear hB2 hB hR hR2
      go_upto_region 12 with (fail)
      go_wp2_with (first | (refine wpList_load_row rfl 46 _ rfl w.heap.size rfl 46 #[.int .i64 0, .string ⟨#[]⟩, .int .i64 0, .int .i64 0, .bool false, .slice none 0 0, .slice none 0 0, .slice none 0 0, .string ⟨#[]⟩, .int .i64 type, .int .i64 pol, .slice ma mn mc, .slice ia ni ic, .string v4, .string v6, .int .i64 hb, .string sel, .string about, .string reason] (0, 0) _ HB2.out Tryd.underlying46 rfl (by kernel_rfl) ?_) | (refine wpList_store_row rfl 46 _ _ rfl (w.heap.size + 1) #[.int .i64 0, .string ⟨#[]⟩, .int .i64 0, .int .i64 0, .bool false, .slice none 0 0, .slice none 0 0, .slice none 0 0, .string ⟨#[]⟩, .int .i64 type, .int .i64 pol, .slice ma mn mc, .slice ia ni ic, .string v4, .string v6, .int .i64 hb, .string sel, .string about, .string reason] rfl rfl 46 #[.int .i64 0, .string ⟨#[]⟩, .int .i64 0, .int .i64 0, .bool false, .slice none 0 0, .slice none 0 0, .slice none 0 0, .string ⟨#[]⟩, .int .i64 0, .int .i64 0, .slice none 0 0, .slice none 0 0, .string ⟨#[]⟩, .string ⟨#[]⟩, .int .i64 0, .string ⟨#[]⟩, .string ⟨#[]⟩, .string ⟨#[]⟩] HR.out (by kernel_rfl) rfl (by simp [Value.oneCell']) ?_))
      refine bodyPost_ret (v := .agg #[.int .i64 0, .string ⟨#[]⟩, .int .i64 0, .int .i64 0, .bool false, .slice none 0 0, .slice none 0 0, .slice none 0 0, .string ⟨#[]⟩, .int .i64 type, .int .i64 pol, .slice ma mn mc, .slice ia ni ic, .string v4, .string v6, .int .i64 hb, .string sel, .string about, .string reason]) ?hr rfl ⟨rfl, ?hb⟩
      case hr => exact results_cell_row (t := 46) Tryd.results68 _ _ (w.heap.size + 1) _ (0, 0) _ rfl (Blk.setRow HR.out _) Tryd.underlying46 rfl (by kernel_rfl)
      case hb => exact bl_setRow (by repeat (first | (with_reducible exact Below.refl _ _) | (with_reducible assumption) | (with_reducible refine bl_alloc ?_ _) | (with_reducible refine bl_drew ?_) | (with_reducible refine bl_drewN ?_ _) | (with_reducible refine bl_set ?_ (by first | (simp; done) | (simp; omega)) _) | (with_reducible refine bl_trans ?_ ‹_›))) (by omega) _
set_option maxRecDepth 100000 in
set_option maxHeartbeats 1600000 in
theorem bare2_c (o : Ob) (hk : o.kind = 2) (w : World) :
    Calls Tryd.prog 68 #[ObjV o] w fun e w' => e = .returned (ObjV (bareO o)) ∧ Below w.heap.size w w' := by
  obtain ⟨kind, name, uid, ver, del, ⟨fa, fn, fc⟩, ⟨la, ln, lc⟩, ⟨ca, cn, cc⟩, status, type, pol, ⟨ma, mn, mc⟩, ⟨ia, ni, ic⟩, v4, v6, hb, sel, about, reason⟩ := o
  simp only at hk
  subst hk
  have hres : ObjV (bareO ⟨2, name, uid, ver, del, ⟨fa, fn, fc⟩, ⟨la, ln, lc⟩, ⟨ca, cn, cc⟩, status, type, pol, ⟨ma, mn, mc⟩, ⟨ia, ni, ic⟩, v4, v6, hb, sel, about, reason⟩) = .agg #[.int .i64 0, .string ⟨#[]⟩, .int .i64 0, .int .i64 0, .bool false, .slice none 0 0, .slice none 0 0, .slice ca cn cc, .string status, .int .i64 0, .int .i64 0, .slice none 0 0, .slice none 0 0, .string v4, .string v6, .int .i64 hb, .string sel, .string about, .string reason] := rfl
  rw [hres]
  clear hres
  unfold ObjV
  go_enter Tryd.func68, Tryd.ntmps68
  go_upto_region 1 with (fail)
  go_cut [3, 4, 5] (fun s3 s4 s5 wc => s3 = .int .i64 2 ∧ Blk wc w.heap.size 46 #[.int .i64 2, .string name, .int .i64 uid, .int .i64 ver, .bool del, .slice fa fn fc, .slice la ln lc, .slice ca cn cc, .string status, .int .i64 type, .int .i64 pol, .slice ma mn mc, .slice ia ni ic, .string v4, .string v6, .int .i64 hb, .string sel, .string about, .string reason] ∧ Blk wc (w.heap.size + 1) 46 #[.int .i64 0, .string ⟨#[]⟩, .int .i64 0, .int .i64 0, .bool false, .slice none 0 0, .slice none 0 0, .slice none 0 0, .string ⟨#[]⟩, .int .i64 0, .int .i64 0, .slice none 0 0, .slice none 0 0, .string ⟨#[]⟩, .string ⟨#[]⟩, .int .i64 0, .string ⟨#[]⟩, .string ⟨#[]⟩, .string ⟨#[]⟩] ∧ Below w.heap.size w wc)
  case first =>
    go_wp2_with fail
    go_meet
    case rel => exact ⟨rfl, Blk.alloc (Blk.new _ _ _) _, Blk.new' _ _ _ _ (by simp), (by repeat (first | (with_reducible exact Below.refl _ _) | (with_reducible assumption) | (with_reducible refine bl_alloc ?_ _) | (with_reducible refine bl_drew ?_) | (with_reducible refine bl_drewN ?_ _) | (with_reducible refine bl_set ?_ (by first | (simp; done) | (simp; omega)) _) | (with_reducible refine bl_trans ?_ ‹_›)))⟩
  case rest =>
    obtain ⟨rfl, hB, hR, hbel⟩ := hcut
    have c0 := hB.cell 0
    have z0 := hB.frozen 0
    have c1 := hB.cell 1
    have z1 := hB.frozen 1
    have c2 := hB.cell 2
    have z2 := hB.frozen 2
    have c3 := hB.cell 3
    have z3 := hB.frozen 3
    have c4 := hB.cell 4
    have z4 := hB.frozen 4
    have c5 := hB.cell 5
    have z5 := hB.frozen 5
    have c6 := hB.cell 6
    have z6 := hB.frozen 6
    simp at c0 c1 c2 c3 c4 c5 c6
    go_upto_region 2 with (fail)
    go_cut [6, 7, 8, 9, 10, 11, 12] (fun s6 s7 s8 s9 s10 s11 s12 wd => Blk wd w.heap.size 46 #[.int .i64 0, .string ⟨#[]⟩, .int .i64 0, .int .i64 0, .bool false, .slice none 0 0, .slice none 0 0, .slice ca cn cc, .string status, .int .i64 type, .int .i64 pol, .slice ma mn mc, .slice ia ni ic, .string v4, .string v6, .int .i64 hb, .string sel, .string about, .string reason] ∧ Blk wd (w.heap.size + 1) 46 #[.int .i64 0, .string ⟨#[]⟩, .int .i64 0, .int .i64 0, .bool false, .slice none 0 0, .slice none 0 0, .slice none 0 0, .string ⟨#[]⟩, .int .i64 0, .int .i64 0, .slice none 0 0, .slice none 0 0, .string ⟨#[]⟩, .string ⟨#[]⟩, .int .i64 0, .string ⟨#[]⟩, .string ⟨#[]⟩, .string ⟨#[]⟩] ∧ Below w.heap.size w wd)
    case first =>
      go_wp2_with fail
      go_meet
      case rel => exact ⟨(((((((hB.put 0 _).put 1 _).put 2 _).put 3 _).put 4 _).put 5 _).put 6 _), (by repeat (first | (with_reducible assumption) | (with_reducible refine blk_fill (u := .int .u64 0) (v := .int .u64 0) ?_) | (with_reducible refine Blk.drew ?_) | (with_reducible refine Blk.new' _ _ _ _ (by first | (with_reducible rfl) | (simp; done))) | (with_reducible refine Blk.alloc ?_ _) | (with_reducible refine Blk.after ?_ ‹_›) | (with_reducible refine Blk.far ?_ (by first | (simp; done) | (simp; omega)) _))), (by repeat (first | (with_reducible exact Below.refl _ _) | (with_reducible assumption) | (with_reducible refine bl_alloc ?_ _) | (with_reducible refine bl_drew ?_) | (with_reducible refine bl_drewN ?_ _) | (with_reducible refine bl_set ?_ (by first | (simp; done) | (simp; omega)) _) | (with_reducible refine bl_trans ?_ ‹_›)))⟩
    case rest =>
      clear hB hR hbel c0 z0 c1 z1 c2 z2 c3 z3 c4 z4 c5 z5 c6 z6
      obtain ⟨hB, hR, hbel⟩ := hcut
      have c9 := hB.cell 9
      have z9 := hB.frozen 9
      have c10 := hB.cell 10
      have z10 := hB.frozen 10
      have c11 := hB.cell 11
      have z11 := hB.frozen 11
      have c12 := hB.cell 12
      have z12 := hB.frozen 12
      simp at c9 c10 c11 c12
      have hB2 : Blk ((((wc.setCell ⟨w.heap.size, 9, none⟩ (.int .i64 0)).setCell ⟨w.heap.size, 10, none⟩ (.int .i64 0)).setCell ⟨w.heap.size, 11, none⟩ (.slice none 0 0)).setCell ⟨w.heap.size, 12, none⟩ (.slice none 0 0)) w.heap.size 46 #[.int .i64 0, .string ⟨#[]⟩, .int .i64 0, .int .i64 0, .bool false, .slice none 0 0, .slice none 0 0, .slice ca cn cc, .string status, .int .i64 0, .int .i64 0, .slice none 0 0, .slice none 0 0, .string v4, .string v6, .int .i64 hb, .string sel, .string about, .string reason] := ((((hB.put 9 (.int .i64 0)).put 10 (.int .i64 0)).put 11 (.slice none 0 0)).put 12 (.slice none 0 0))
      have HB2 := Lib.hid hB2
      have hR2 := (Blk.far (Blk.far (Blk.far (Blk.far hR (p := ⟨w.heap.size, 9, none⟩) (by simp) (.int .i64 0)) (p := ⟨w.heap.size, 10, none⟩) (by simp) (.int .i64 0)) (p := ⟨w.heap.size, 11, none⟩) (by simp) (.slice none 0 0)) (p := ⟨w.heap.size, 12, none⟩) (by simp) (.slice none 0 0))
      have HR := Lib.hid hR2
      clear hB2 hB hR hR2
      go_upto_region 12 with (fail)
      go_wp2_with (first | (refine wpList_load_row rfl 46 _ rfl w.heap.size rfl 46 #[.int .i64 0, .string ⟨#[]⟩, .int .i64 0, .int .i64 0, .bool false, .slice none 0 0, .slice none 0 0, .slice ca cn cc, .string status, .int .i64 0, .int .i64 0, .slice none 0 0, .slice none 0 0, .string v4, .string v6, .int .i64 hb, .string sel, .string about, .string reason] (0, 0) _ HB2.out Tryd.underlying46 rfl (by kernel_rfl) ?_) | (refine wpList_store_row rfl 46 _ _ rfl (w.heap.size + 1) #[.int .i64 0, .string ⟨#[]⟩, .int .i64 0, .int .i64 0, .bool false, .slice none 0 0, .slice none 0 0, .slice ca cn cc, .string status, .int .i64 0, .int .i64 0, .slice none 0 0, .slice none 0 0, .string v4, .string v6, .int .i64 hb, .string sel, .string about, .string reason] rfl rfl 46 #[.int .i64 0, .string ⟨#[]⟩, .int .i64 0, .int .i64 0, .bool false, .slice none 0 0, .slice none 0 0, .slice none 0 0, .string ⟨#[]⟩, .int .i64 0, .int .i64 0, .slice none 0 0, .slice none 0 0, .string ⟨#[]⟩, .string ⟨#[]⟩, .int .i64 0, .string ⟨#[]⟩, .string ⟨#[]⟩, .string ⟨#[]⟩] HR.out (by kernel_rfl) rfl (by simp [Value.oneCell']) ?_))
      refine bodyPost_ret (v := .agg #[.int .i64 0, .string ⟨#[]⟩, .int .i64 0, .int .i64 0, .bool false, .slice none 0 0, .slice none 0 0, .slice ca cn cc, .string status, .int .i64 0, .int .i64 0, .slice none 0 0, .slice none 0 0, .string v4, .string v6, .int .i64 hb, .string sel, .string about, .string reason]) ?hr rfl ⟨rfl, ?hb⟩
      case hr => exact results_cell_row (t := 46) Tryd.results68 _ _ (w.heap.size + 1) _ (0, 0) _ rfl (Blk.setRow HR.out _) Tryd.underlying46 rfl (by kernel_rfl)
      case hb => exact bl_setRow (by repeat (first | (with_reducible exact Below.refl _ _) | (with_reducible assumption) | (with_reducible refine bl_alloc ?_ _) | (with_reducible refine bl_drew ?_) | (with_reducible refine bl_drewN ?_ _) | (with_reducible refine bl_set ?_ (by first | (simp; done) | (simp; omega)) _) | (with_reducible refine bl_trans ?_ ‹_›))) (by omega) _
set_option maxRecDepth 100000 in
set_option maxHeartbeats 1600000 in
theorem bare3_c (o : Ob) (hk : o.kind = 3) (w : World) :
    Calls Tryd.prog 68 #[ObjV o] w fun e w' => e = .returned (ObjV (bareO o)) ∧ Below w.heap.size w w' := by
  obtain ⟨kind, name, uid, ver, del, ⟨fa, fn, fc⟩, ⟨la, ln, lc⟩, ⟨ca, cn, cc⟩, status, type, pol, ⟨ma, mn, mc⟩, ⟨ia, ni, ic⟩, v4, v6, hb, sel, about, reason⟩ := o
  simp only at hk
  subst hk
  have hres : ObjV (bareO ⟨3, name, uid, ver, del, ⟨fa, fn, fc⟩, ⟨la, ln, lc⟩, ⟨ca, cn, cc⟩, status, type, pol, ⟨ma, mn, mc⟩, ⟨ia, ni, ic⟩, v4, v6, hb, sel, about, reason⟩) = .agg #[.int .i64 0, .string ⟨#[]⟩, .int .i64 0, .int .i64 0, .bool false, .slice none 0 0, .slice none 0 0, .slice ca cn cc, .string status, .int .i64 type, .int .i64 pol, .slice ma mn mc, .slice ia ni ic, .string ⟨#[]⟩, .string ⟨#[]⟩, .int .i64 0, .string ⟨#[]⟩, .string about, .string reason] := rfl
  rw [hres]
  clear hres
  unfold ObjV
  go_enter Tryd.func68, Tryd.ntmps68
  go_upto_region 1 with (fail)
  go_cut [3, 4, 5] (fun s3 s4 s5 wc => s3 = .int .i64 3 ∧ Blk wc w.heap.size 46 #[.int .i64 3, .string name, .int .i64 uid, .int .i64 ver, .bool del, .slice fa fn fc, .slice la ln lc, .slice ca cn cc, .string status, .int .i64 type, .int .i64 pol, .slice ma mn mc, .slice ia ni ic, .string v4, .string v6, .int .i64 hb, .string sel, .string about, .string reason] ∧ Blk wc (w.heap.size + 1) 46 #[.int .i64 0, .string ⟨#[]⟩, .int .i64 0, .int .i64 0, .bool false, .slice none 0 0, .slice none 0 0, .slice none 0 0, .string ⟨#[]⟩, .int .i64 0, .int .i64 0, .slice none 0 0, .slice none 0 0, .string ⟨#[]⟩, .string ⟨#[]⟩, .int .i64 0, .string ⟨#[]⟩, .string ⟨#[]⟩, .string ⟨#[]⟩] ∧ Below w.heap.size w wc)
  case first =>
    go_wp2_with fail
    go_meet
    case rel => exact ⟨rfl, Blk.alloc (Blk.new _ _ _) _, Blk.new' _ _ _ _ (by simp), (by repeat (first | (with_reducible exact Below.refl _ _) | (with_reducible assumption) | (with_reducible refine bl_alloc ?_ _) | (with_reducible refine bl_drew ?_) | (with_reducible refine bl_drewN ?_ _) | (with_reducible refine bl_set ?_ (by first | (simp; done) | (simp; omega)) _) | (with_reducible refine bl_trans ?_ ‹_›)))⟩
  case rest =>
    obtain ⟨rfl, hB, hR, hbel⟩ := hcut
    have c0 := hB.cell 0
    have z0 := hB.frozen 0
    have c1 := hB.cell 1
    have z1 := hB.frozen 1
    have c2 := hB.cell 2
    have z2 := hB.frozen 2
    have c3 := hB.cell 3
    have z3 := hB.frozen 3
    have c4 := hB.cell 4
    have z4 := hB.frozen 4
    have c5 := hB.cell 5
    have z5 := hB.frozen 5
    have c6 := hB.cell 6
    have z6 := hB.frozen 6
    simp at c0 c1 c2 c3 c4 c5 c6
    go_upto_region 2 with (fail)
    go_cut [6, 7, 8, 9, 10, 11, 12] (fun s6 s7 s8 s9 s10 s11 s12 wd => Blk wd w.heap.size 46 #[.int .i64 0, .string ⟨#[]⟩, .int .i64 0, .int .i64 0, .bool false, .slice none 0 0, .slice none 0 0, .slice ca cn cc, .string status, .int .i64 type, .int .i64 pol, .slice ma mn mc, .slice ia ni ic, .string v4, .string v6, .int .i64 hb, .string sel, .string about, .string reason] ∧ Blk wd (w.heap.size + 1) 46 #[.int .i64 0, .string ⟨#[]⟩, .int .i64 0, .int .i64 0, .bool false, .slice none 0 0, .slice none 0 0, .slice none 0 0, .string ⟨#[]⟩, .int .i64 0, .int .i64 0, .slice none 0 0, .slice none 0 0, .string ⟨#[]⟩, .string ⟨#[]⟩, .int .i64 0, .string ⟨#[]⟩, .string ⟨#[]⟩, .string ⟨#[]⟩] ∧ Below w.heap.size w wd)
    case first =>
      go_wp2_with fail
      go_meet
      case rel => exact ⟨(((((((hB.put 0 _).put 1 _).put 2 _).put 3 _).put 4 _).put 5 _).put 6 _), (by repeat (first | (with_reducible assumption) | (with_reducible refine blk_fill (u := .int .u64 0) (v := .int .u64 0) ?_) | (with_reducible refine Blk.drew ?_) | (with_reducible refine Blk.new' _ _ _ _ (by first | (with_reducible rfl) | (simp; done))) | (with_reducible refine Blk.alloc ?_ _) | (with_reducible refine Blk.after ?_ ‹_›) | (with_reducible refine Blk.far ?_ (by first | (simp; done) | (simp; omega)) _))), (by repeat (first | (with_reducible exact Below.refl _ _) | (with_reducible assumption) | (with_reducible refine bl_alloc ?_ _) | (with_reducible refine bl_drew ?_) | (with_reducible refine bl_drewN ?_ _) | (with_reducible refine bl_set ?_ (by first | (simp; done) | (simp; omega)) _) | (with_reducible refine bl_trans ?_ ‹_›)))⟩
    case rest =>
      clear hB hR hbel c0 z0 c1 z1 c2 z2 c3 z3 c4 z4 c5 z5 c6 z6
      obtain ⟨hB, hR, hbel⟩ := hcut
      have c13 := hB.cell 13
      have z13 := hB.frozen 13
      have c14 := hB.cell 14
      have z14 := hB.frozen 14
      have c15 := hB.cell 15
      have z15 := hB.frozen 15
      have c16 := hB.cell 16
      have z16 := hB.frozen 16
      simp at c13 c14 c15 c16
      have hB2 : Blk ((((wc.setCell ⟨w.heap.size, 13, none⟩ (.string ⟨#[]⟩)).setCell ⟨w.heap.size, 14, none⟩ (.string ⟨#[]⟩)).setCell ⟨w.heap.size, 15, none⟩ (.int .i64 0)).setCell ⟨w.heap.size, 16, none⟩ (.string ⟨#[]⟩)) w.heap.size 46 #[.int .i64 0, .string ⟨#[]⟩, .int .i64 0, .int .i64 0, .bool false, .slice none 0 0, .slice none 0 0, .slice ca cn cc, .string status, .int .i64 type, .int .i64 pol, .slice ma mn mc, .slice ia ni ic, .string ⟨#[]⟩, .string ⟨#[]⟩, .int .i64 0, .string ⟨#[]⟩, .string about, .string reason] := ((((hB.put 13 (.string ⟨#[]⟩)).put 14 (.string ⟨#[]⟩)).put 15 (.int .i64 0)).put 16 (.string ⟨#[]⟩))
      have HB2 := Lib.hid hB2
      have hR2 := (Blk.far (Blk.far (Blk.far (Blk.far hR (p := ⟨w.heap.size, 13, none⟩) (by simp) (.string ⟨#[]⟩)) (p := ⟨w.heap.size, 14, none⟩) (by simp) (.string ⟨#[]⟩)) (p := ⟨w.heap.size, 15, none⟩) (by simp) (.int .i64 0)) (p := ⟨w.heap.size, 16, none⟩) (by simp) (.string ⟨#[]⟩))
      have HR := Lib.hid hR2
      clear hB2 hB hR hR2
      go_upto_region 12 with (fail)
      go_wp2_with (first | (refine wpList_load_row rfl 46 _ rfl w.heap.size rfl 46 #[.int .i64 0, .string ⟨#[]⟩, .int .i64 0, .int .i64 0, .bool false, .slice none 0 0, .slice none 0 0, .slice ca cn cc, .string status, .int .i64 type, .int .i64 pol, .slice ma mn mc, .slice ia ni ic, .string ⟨#[]⟩, .string ⟨#[]⟩, .int .i64 0, .string ⟨#[]⟩, .string about, .string reason] (0, 0) _ HB2.out Tryd.underlying46 rfl (by kernel_rfl) ?_) | (refine wpList_store_row rfl 46 _ _ rfl (w.heap.size + 1) #[.int .i64 0, .string ⟨#[]⟩, .int .i64 0, .int .i64 0, .bool false, .slice none 0 0, .slice none 0 0, .slice ca cn cc, .string status, .int .i64 type, .int .i64 pol, .slice ma mn mc, .slice ia ni ic, .string ⟨#[]⟩, .string ⟨#[]⟩, .int .i64 0, .string ⟨#[]⟩, .string about, .string reason] rfl rfl 46 #[.int .i64 0, .string ⟨#[]⟩, .int .i64 0, .int .i64 0, .bool false, .slice none 0 0, .slice none 0 0, .slice none 0 0, .string ⟨#[]⟩, .int .i64 0, .int .i64 0, .slice none 0 0, .slice none 0 0, .string ⟨#[]⟩, .string ⟨#[]⟩, .int .i64 0, .string ⟨#[]⟩, .string ⟨#[]⟩, .string ⟨#[]⟩] HR.out (by kernel_rfl) rfl (by simp [Value.oneCell']) ?_))
      refine bodyPost_ret (v := .agg #[.int .i64 0, .string ⟨#[]⟩, .int .i64 0, .int .i64 0, .bool false, .slice none 0 0, .slice none 0 0, .slice ca cn cc, .string status, .int .i64 type, .int .i64 pol, .slice ma mn mc, .slice ia ni ic, .string ⟨#[]⟩, .string ⟨#[]⟩, .int .i64 0, .string ⟨#[]⟩, .string about, .string reason]) ?hr rfl ⟨rfl, ?hb⟩
      case hr => exact results_cell_row (t := 46) Tryd.results68 _ _ (w.heap.size + 1) _ (0, 0) _ rfl (Blk.setRow HR.out _) Tryd.underlying46 rfl (by kernel_rfl)
      case hb => exact bl_setRow (by repeat (first | (with_reducible exact Below.refl _ _) | (with_reducible assumption) | (with_reducible refine bl_alloc ?_ _) | (with_reducible refine bl_drew ?_) | (with_reducible refine bl_drewN ?_ _) | (with_reducible refine bl_set ?_ (by first | (simp; done) | (simp; omega)) _) | (with_reducible refine bl_trans ?_ ‹_›))) (by omega) _
set_option maxRecDepth 100000 in
set_option maxHeartbeats 1600000 in
theorem bare4_c (o : Ob) (hk : o.kind = 4) (w : World) :
    Calls Tryd.prog 68 #[ObjV o] w fun e w' => e = .returned (ObjV (bareO o)) ∧ Below w.heap.size w w' := by
  obtain ⟨kind, name, uid, ver, del, ⟨fa, fn, fc⟩, ⟨la, ln, lc⟩, ⟨ca, cn, cc⟩, status, type, pol, ⟨ma, mn, mc⟩, ⟨ia, ni, ic⟩, v4, v6, hb, sel, about, reason⟩ := o
  simp only at hk
  subst hk
  have hres : ObjV (bareO ⟨4, name, uid, ver, del, ⟨fa, fn, fc⟩, ⟨la, ln, lc⟩, ⟨ca, cn, cc⟩, status, type, pol, ⟨ma, mn, mc⟩, ⟨ia, ni, ic⟩, v4, v6, hb, sel, about, reason⟩) = .agg #[.int .i64 0, .string ⟨#[]⟩, .int .i64 0, .int .i64 0, .bool false, .slice none 0 0, .slice none 0 0, .slice ca cn cc, .string status, .int .i64 type, .int .i64 pol, .slice ma mn mc, .slice ia ni ic, .string v4, .string v6, .int .i64 hb, .string sel, .string ⟨#[]⟩, .string ⟨#[]⟩] := rfl
  rw [hres]
  clear hres
  unfold ObjV
  go_enter Tryd.func68, Tryd.ntmps68
  go_upto_region 1 with (fail)
  go_cut [3, 4, 5] (fun s3 s4 s5 wc => s3 = .int .i64 4 ∧ Blk wc w.heap.size 46 #[.int .i64 4, .string name, .int .i64 uid, .int .i64 ver, .bool del, .slice fa fn fc, .slice la ln lc, .slice ca cn cc, .string status, .int .i64 type, .int .i64 pol, .slice ma mn mc, .slice ia ni ic, .string v4, .string v6, .int .i64 hb, .string sel, .string about, .string reason] ∧ Blk wc (w.heap.size + 1) 46 #[.int .i64 0, .string ⟨#[]⟩, .int .i64 0, .int .i64 0, .bool false, .slice none 0 0, .slice none 0 0, .slice none 0 0, .string ⟨#[]⟩, .int .i64 0, .int .i64 0, .slice none 0 0, .slice none 0 0, .string ⟨#[]⟩, .string ⟨#[]⟩, .int .i64 0, .string ⟨#[]⟩, .string ⟨#[]⟩, .string ⟨#[]⟩] ∧ Below w.heap.size w wc)
  case first =>
    go_wp2_with fail
    go_meet
    case rel => exact ⟨rfl, Blk.alloc (Blk.new _ _ _) _, Blk.new' _ _ _ _ (by simp), (by repeat (first | (with_reducible exact Below.refl _ _) | (with_reducible assumption) | (with_reducible refine bl_alloc ?_ _) | (with_reducible refine bl_drew ?_) | (with_reducible refine bl_drewN ?_ _) | (with_reducible refine bl_set ?_ (by first | (simp; done) | (simp; omega)) _) | (with_reducible refine bl_trans ?_ ‹_›)))⟩
  case rest =>
    obtain ⟨rfl, hB, hR, hbel⟩ := hcut
    have c0 := hB.cell 0
    have z0 := hB.frozen 0
    have c1 := hB.cell 1
    have z1 := hB.frozen 1
    have c2 := hB.cell 2
    have z2 := hB.frozen 2
    have c3 := hB.cell 3
    have z3 := hB.frozen 3
    have c4 := hB.cell 4
    have z4 := hB.frozen 4
    have c5 := hB.cell 5
    have z5 := hB.frozen 5
    have c6 := hB.cell 6
    have z6 := hB.frozen 6
    simp at c0 c1 c2 c3 c4 c5 c6
    go_upto_region 2 with (fail)
    go_cut [6, 7, 8, 9, 10, 11, 12] (fun s6 s7 s8 s9 s10 s11 s12 wd => Blk wd w.heap.size 46 #[.int .i64 0, .string ⟨#[]⟩, .int .i64 0, .int .i64 0, .bool false, .slice none 0 0, .slice none 0 0, .slice ca cn cc, .string status, .int .i64 type, .int .i64 pol, .slice ma mn mc, .slice ia ni ic, .string v4, .string v6, .int .i64 hb, .string sel, .string about, .string reason] ∧ Blk wd (w.heap.size + 1) 46 #[.int .i64 0, .string ⟨#[]⟩, .int .i64 0, .int .i64 0, .bool false, .slice none 0 0, .slice none 0 0, .slice none 0 0, .string ⟨#[]⟩, .int .i64 0, .int .i64 0, .slice none 0 0, .slice none 0 0, .string ⟨#[]⟩, .string ⟨#[]⟩, .int .i64 0, .string ⟨#[]⟩, .string ⟨#[]⟩, .string ⟨#[]⟩] ∧ Below w.heap.size w wd)
    case first =>
      go_wp2_with fail
      go_meet
      case rel => exact ⟨(((((((hB.put 0 _).put 1 _).put 2 _).put 3 _).put 4 _).put 5 _).put 6 _), (by repeat (first | (with_reducible assumption) | (with_reducible refine blk_fill (u := .int .u64 0) (v := .int .u64 0) ?_) | (with_reducible refine Blk.drew ?_) | (with_reducible refine Blk.new' _ _ _ _ (by first | (with_reducible rfl) | (simp; done))) | (with_reducible refine Blk.alloc ?_ _) | (with_reducible refine Blk.after ?_ ‹_›) | (with_reducible refine Blk.far ?_ (by first | (simp; done) | (simp; omega)) _))), (by repeat (first | (with_reducible exact Below.refl _ _) | (with_reducible assumption) | (with_reducible refine bl_alloc ?_ _) | (with_reducible refine bl_drew ?_) | (with_reducible refine bl_drewN ?_ _) | (with_reducible refine bl_set ?_ (by first | (simp; done) | (simp; omega)) _) | (with_reducible refine bl_trans ?_ ‹_›)))⟩
    case rest =>
      clear hB hR hbel c0 z0 c1 z1 c2 z2 c3 z3 c4 z4 c5 z5 c6 z6
      obtain ⟨hB, hR, hbel⟩ := hcut
      have c17 := hB.cell 17
      have z17 := hB.frozen 17
      have c18 := hB.cell 18
      have z18 := hB.frozen 18
      simp at c17 c18
      have hB2 : Blk ((wc.setCell ⟨w.heap.size, 17, none⟩ (.string ⟨#[]⟩)).setCell ⟨w.heap.size, 18, none⟩ (.string ⟨#[]⟩)) w.heap.size 46 #[.int .i64 0, .string ⟨#[]⟩, .int .i64 0, .int .i64 0, .bool false, .slice none 0 0, .slice none 0 0, .slice ca cn cc, .string status, .int .i64 type, .int .i64 pol, .slice ma mn mc, .slice ia ni ic, .string v4, .string v6, .int .i64 hb, .string sel, .string ⟨#[]⟩, .string ⟨#[]⟩] := ((hB.put 17 (.string ⟨#[]⟩)).put 18 (.string ⟨#[]⟩))
      have HB2 := Lib.hid hB2
      have hR2 := (Blk.far (Blk.far hR (p := ⟨w.heap.size, 17, none⟩) (by simp) (.string ⟨#[]⟩)) (p := ⟨w.heap.size, 18, none⟩) (by simp) (.string ⟨#[]⟩))
      have HR := Lib.hid hR2
      clear hB2 hB hR hR2
      go_upto_region 12 with (fail)
      go_wp2_with (first | (refine wpList_load_row rfl 46 _ rfl w.heap.size rfl 46 #[.int .i64 0, .string ⟨#[]⟩, .int .i64 0, .int .i64 0, .bool false, .slice none 0 0, .slice none 0 0, .slice ca cn cc, .string status, .int .i64 type, .int .i64 pol, .slice ma mn mc, .slice ia ni ic, .string v4, .string v6, .int .i64 hb, .string sel, .string ⟨#[]⟩, .string ⟨#[]⟩] (0, 0) _ HB2.out Tryd.underlying46 rfl (by kernel_rfl) ?_) | (refine wpList_store_row rfl 46 _ _ rfl (w.heap.size + 1) #[.int .i64 0, .string ⟨#[]⟩, .int .i64 0, .int .i64 0, .bool false, .slice none 0 0, .slice none 0 0, .slice ca cn cc, .string status, .int .i64 type, .int .i64 pol, .slice ma mn mc, .slice ia ni ic, .string v4, .string v6, .int .i64 hb, .string sel, .string ⟨#[]⟩, .string ⟨#[]⟩] rfl rfl 46 #[.int .i64 0, .string ⟨#[]⟩, .int .i64 0, .int .i64 0, .bool false, .slice none 0 0, .slice none 0 0, .slice none 0 0, .string ⟨#[]⟩, .int .i64 0, .int .i64 0, .slice none 0 0, .slice none 0 0, .string ⟨#[]⟩, .string ⟨#[]⟩, .int .i64 0, .string ⟨#[]⟩, .string ⟨#[]⟩, .string ⟨#[]⟩] HR.out (by kernel_rfl) rfl (by simp [Value.oneCell']) ?_))
      refine bodyPost_ret (v := .agg #[.int .i64 0, .string ⟨#[]⟩, .int .i64 0, .int .i64 0, .bool false, .slice none 0 0, .slice none 0 0, .slice ca cn cc, .string status, .int .i64 type, .int .i64 pol, .slice ma mn mc, .slice ia ni ic, .string v4, .string v6, .int .i64 hb, .string sel, .string ⟨#[]⟩, .string ⟨#[]⟩]) ?hr rfl ⟨rfl, ?hb⟩
      case hr => exact results_cell_row (t := 46) Tryd.results68 _ _ (w.heap.size + 1) _ (0, 0) _ rfl (Blk.setRow HR.out _) Tryd.underlying46 rfl (by kernel_rfl)
      case hb => exact bl_setRow (by repeat (first | (with_reducible exact Below.refl _ _) | (with_reducible assumption) | (with_reducible refine bl_alloc ?_ _) | (with_reducible refine bl_drew ?_) | (with_reducible refine bl_drewN ?_ _) | (with_reducible refine bl_set ?_ (by first | (simp; done) | (simp; omega)) _) | (with_reducible refine bl_trans ?_ ‹_›))) (by omega) _
theorem bare_c (o : Ob) (h1 : 1 ≤ o.kind) (h4 : o.kind ≤ 4) (w : World) :
    Calls Tryd.prog 68 #[ObjV o] w fun e w' => e = .returned (ObjV (bareO o)) ∧ Below w.heap.size w w' := by
  have h : o.kind = 1 ∨ o.kind = 2 ∨ o.kind = 3 ∨ o.kind = 4 := by omega
  rcases h with h | h | h | h
  · exact bare1_c o h w
  · exact bare2_c o h w
  · exact bare3_c o h w
  · exact bare4_c o h w
end Go.Proofs.YtanflcccjjbkgaaDoor
