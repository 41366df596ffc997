/- Objects: what Shape asks; the calls of Equal against nil. -/
import Derived.Test.YtanflcccjjbkgaaDoorObE
import Derived.Deep.Cut
namespace Go.Proofs.YtanflcccjjbkgaaDoor
open Go.RowKit

/-- a whole row loaded by an operation that is guarded, and wanted -/
theorem wpList_load_want {P : Program} {ops : Array Oper} {rest : List Oper} {o : Oper} {a : Act} {w : World} {Q : Exit → Act → World → Prop} (hw : Region.wanted o (yielded ops a.tmps) = true) (ty : TypeId) (x : Operand) (ho : o.op = .load ty x)
    (g : Nat) (hx : a.eval x = .pointer (some ⟨g, 0, none⟩)) (t : TypeId) (cs : Array Value) (fr : Nat × Nat) (d : TypeDesc) (hg : w.heap[g]? = some (.cells cs t fr))
    (hu : P.underlying ty = some d) (hd : (match d with | .struct _ | .array _ _ => true | _ => false) = true) (hi : (P.info? ty).map (·.size) = some cs.size)
    (h : wpList P ops Q rest (a.put o.dst (.agg cs)) w) : wpList P ops Q (o :: rest) a w :=
  wpList_step fun K hK => by rw [if_pos hw]; exact wp_load_row ty x ho g hx t cs fr d hg hu hd hi (hK _ _ h)
set_option maxRecDepth 100000 in
theorem equalS_nil (a : Option Addr) (n c : Nat) (w : World) :
    Calls Tryd.prog 63 #[.slice a n c, .slice none 0 0] w fun e w' => e = .returned (.bool (decide (n = 0))) ∧ Below w.heap.size w w' := by
  by_cases h : n = 0
  · subst h
    go_enter Tryd.func63, Tryd.ntmps63
    go_wp2_with fail
    refine wp_loop_rounds 1 ?_
    rw [rounds_succ]
    go_wp2_with fail
    go_ret
    exact ⟨rfl, (by repeat (first | (with_reducible exact Below.refl _ _) | (with_reducible assumption) | (with_reducible refine bl_alloc ?_ _) | (with_reducible refine bl_drew ?_) | (with_reducible refine bl_drewN ?_ _) | (with_reducible refine bl_set ?_ (by first | (simp; done) | (simp; omega)) _) | (with_reducible refine bl_trans ?_ ‹_›)))⟩
  · have d : ((n : Int) != 0) = true := by simpa using h
    have e0 : decide (n = 0) = false := decide_eq_false h
    rw [e0]
    clear h e0
    go_enter Tryd.func63, Tryd.ntmps63
    go_wp2_with fail
    go_ret
    exact ⟨rfl, (by repeat (first | (with_reducible exact Below.refl _ _) | (with_reducible assumption) | (with_reducible refine bl_alloc ?_ _) | (with_reducible refine bl_drew ?_) | (with_reducible refine bl_drewN ?_ _) | (with_reducible refine bl_set ?_ (by first | (simp; done) | (simp; omega)) _) | (with_reducible refine bl_trans ?_ ‹_›)))⟩
set_option maxRecDepth 100000 in
theorem equalP_nil (a : Option Addr) (n c : Nat) (w : World) :
    Calls Tryd.prog 64 #[.slice a n c, .slice none 0 0] w fun e w' => e = .returned (.bool (decide (n = 0))) ∧ Below w.heap.size w w' := by
  by_cases h : n = 0
  · subst h
    go_enter Tryd.func64, Tryd.ntmps64
    go_wp2_with fail
    refine wp_loop_rounds 1 ?_
    rw [rounds_succ]
    go_wp2_with fail
    go_ret
    exact ⟨rfl, (by repeat (first | (with_reducible exact Below.refl _ _) | (with_reducible assumption) | (with_reducible refine bl_alloc ?_ _) | (with_reducible refine bl_drew ?_) | (with_reducible refine bl_drewN ?_ _) | (with_reducible refine bl_set ?_ (by first | (simp; done) | (simp; omega)) _) | (with_reducible refine bl_trans ?_ ‹_›)))⟩
  · have d : ((n : Int) != 0) = true := by simpa using h
    have e0 : decide (n = 0) = false := decide_eq_false h
    rw [e0]
    clear h e0
    go_enter Tryd.func64, Tryd.ntmps64
    go_wp2_with fail
    go_ret
    exact ⟨rfl, (by repeat (first | (with_reducible exact Below.refl _ _) | (with_reducible assumption) | (with_reducible refine bl_alloc ?_ _) | (with_reducible refine bl_drew ?_) | (with_reducible refine bl_drewN ?_ _) | (with_reducible refine bl_set ?_ (by first | (simp; done) | (simp; omega)) _) | (with_reducible refine bl_trans ?_ ‹_›)))⟩
set_option maxRecDepth 100000 in
theorem equalI_nil (a : Option Addr) (n c : Nat) (w : World) :
    Calls Tryd.prog 65 #[.slice a n c, .slice none 0 0] w fun e w' => e = .returned (.bool (decide (n = 0))) ∧ Below w.heap.size w w' := by
  by_cases h : n = 0
  · subst h
    go_enter Tryd.func65, Tryd.ntmps65
    go_wp2_with fail
    refine wp_loop_rounds 1 ?_
    rw [rounds_succ]
    go_wp2_with fail
    go_ret
    exact ⟨rfl, (by repeat (first | (with_reducible exact Below.refl _ _) | (with_reducible assumption) | (with_reducible refine bl_alloc ?_ _) | (with_reducible refine bl_drew ?_) | (with_reducible refine bl_drewN ?_ _) | (with_reducible refine bl_set ?_ (by first | (simp; done) | (simp; omega)) _) | (with_reducible refine bl_trans ?_ ‹_›)))⟩
  · have d : ((n : Int) != 0) = true := by simpa using h
    have e0 : decide (n = 0) = false := decide_eq_false h
    rw [e0]
    clear h e0
    go_enter Tryd.func65, Tryd.ntmps65
    go_wp2_with fail
    go_ret
    exact ⟨rfl, (by repeat (first | (with_reducible exact Below.refl _ _) | (with_reducible assumption) | (with_reducible refine bl_alloc ?_ _) | (with_reducible refine bl_drew ?_) | (with_reducible refine bl_drewN ?_ _) | (with_reducible refine bl_set ?_ (by first | (simp; done) | (simp; omega)) _) | (with_reducible refine bl_trans ?_ ‹_›)))⟩
/-- is nothing left? -/
def nullB (o : Ob) : Bool := flatEq o nullOb && (decide (o.fin.n = 0) && (decide (o.lab.n = 0) && (decide (o.cid.n = 0) && (decide (o.fam.n = 0) && decide (o.ips.n = 0)))))
theorem sameNull_c (o : Ob) (w : World) :
    Calls Tryd.prog 32 #[ObjV o, ObjV nullOb] w fun e w' => e = .returned (.bool (nullB o)) ∧ Below w.heap.size w w' :=
  same_c o nullOb w _ _ _ _ _ (fun w' _ => equalS_nil _ _ _ w') (fun w' _ => equalP_nil _ _ _ w') (fun w' _ => equalS_nil _ _ _ w') (fun w' _ => equalI_nil _ _ _ w') (fun w' _ => equalS_nil _ _ _ w')
def IntsAt (w : World) (v : Value) (l : List Int) : Prop :=
  l.length ≤ 1000000 ∧ ((∃ a c, v = .slice a 0 c ∧ l = []) ∨ ∃ b o c, v = .slice (some ⟨b, o, none⟩) l.length c ∧ 0 < l.length ∧ ∀ j, j < l.length → w.cell? ⟨b, o + j, none⟩ = some (.int .i64 (l.getD j 0)))
/-- the slices of an object, read in a world -/
structure Reads (w : World) (o : Ob) (fin : List ByteArray) (lab : List (ByteArray × ByteArray)) (cid : List ByteArray) (fam : List Int) (ips : List ByteArray) : Prop where
  fin : StrsAt w o.fin.v fin
  lab : PairsAt w o.lab.v lab
  cid : StrsAt w o.cid.v cid
  fam : IntsAt w o.fam.v fam
  ips : StrsAt w o.ips.v ips
def inB (n most : Int) : Bool := decide (0 ≤ n ∧ n ≤ most)
def ones (o : Ob) : List ByteArray := [o.name, o.status, o.v4, o.v6, o.sel, o.about, o.reason]
def shapeB (o : Ob) (fin : List ByteArray) (lab : List (ByteArray × ByteArray)) (cid : List ByteArray) (fam : List Int) (ips : List ByteArray) : Bool :=
  decide (1 ≤ o.kind ∧ o.kind ≤ 4) && (nullB (bareO o) && (([o.type, o.pol, o.hb] ++ fam).all (inB · 255) && (inB o.uid 1099511627776 && (inB o.ver 1099511627776 && (textsB (ones o) 7 && (textsB fin 4 && (textsB cid 8 && (textsB ips 8 && (decide ((fam.length : Int) ≤ 8) && labelsB lab)))))))))
set_option maxRecDepth 100000 in
theorem shape_odd (o : Ob) (w : World) (h : ¬ (1 ≤ o.kind ∧ o.kind ≤ 4)) :
    Calls Tryd.prog 35 #[ObjV o] w fun e w' => e = .returned (.bool false) ∧ Below w.heap.size w w' := by
  rw [ObjV_eq]
  have hc : o.kind < 1 ∨ (¬ o.kind < 1 ∧ 4 < o.kind) := by omega
  clear h
  go_enter Tryd.func35, Tryd.ntmps35
  go_upto_region 1 with (fail)
  have hA : Blk (w.alloc (.cells (ObjC o) 46)) w.heap.size 46 (ObjC o) := Blk.new _ _ _
  have hbel : Below w.heap.size w (w.alloc (.cells (ObjC o) 46)) := (by repeat (first | (with_reducible exact Below.refl _ _) | (with_reducible assumption) | (with_reducible refine bl_alloc ?_ _) | (with_reducible refine bl_drew ?_) | (with_reducible refine bl_drewN ?_ _) | (with_reducible refine bl_set ?_ (by first | (simp; done) | (simp; omega)) _) | (with_reducible refine bl_trans ?_ ‹_›)))
  generalize w.alloc (.cells (ObjC o) 46) = wz at *
  have c0 : wz.cell? ⟨w.heap.size, 0, none⟩ = some (.int .i64 o.kind) := hA.cell 0
  rcases hc with h1 | ⟨h1, h2⟩
  · go_wp2_with fail
    go_ret
    exact ⟨rfl, hbel⟩
  · go_wp2_with fail
    go_ret
    exact ⟨rfl, hbel⟩
set_option maxRecDepth 100000 in
theorem shape_rest (o : Ob) (w : World) (h1 : 1 ≤ o.kind) (h4 : o.kind ≤ 4) (hn : nullB (bareO o) = false) :
    Calls Tryd.prog 35 #[ObjV o] w fun e w' => e = .returned (.bool false) ∧ Below w.heap.size w w' := by
  rw [ObjV_eq]
  have HC := Lib.hid (fun w => bare_c o h1 h4 w)
  have HS := Lib.hid (fun w => sameNull_c (bareO o) w)
  rw [hn] at HS
  clear hn
  have d1 : decide (o.kind < 1) = false := decide_eq_false (by omega)
  have d4 : decide (4 < o.kind) = false := decide_eq_false (by omega)
  clear h1 h4
  go_enter Tryd.func35, Tryd.ntmps35
  go_upto_region 1 with (fail)
  have hA : Blk (w.alloc (.cells (ObjC o) 46)) w.heap.size 46 (ObjC o) := Blk.new _ _ _
  have hbel : Below w.heap.size w (w.alloc (.cells (ObjC o) 46)) := (by repeat (first | (with_reducible exact Below.refl _ _) | (with_reducible assumption) | (with_reducible refine bl_alloc ?_ _) | (with_reducible refine bl_drew ?_) | (with_reducible refine bl_drewN ?_ _) | (with_reducible refine bl_set ?_ (by first | (simp; done) | (simp; omega)) _) | (with_reducible refine bl_trans ?_ ‹_›)))
  generalize w.alloc (.cells (ObjC o) 46) = wz at *
  have c0 : wz.cell? ⟨w.heap.size, 0, none⟩ = some (.int .i64 o.kind) := hA.cell 0
  go_wp2_with (refine wpList_load_want rfl 46 _ rfl w.heap.size rfl 46 (ObjC o) (0, 0) _ hA Tryd.underlying46 rfl (by kernel_rfl) ?_)
  refine (HC.out _).mono ?_
  rintro e w1 ⟨rfl, hb1⟩
  have hbel1 := bl_trans hbel hb1
  generalize bareO o = B at *
  go_wp2_with fail
  refine (HS.out _).mono ?_
  rintro e w2 ⟨rfl, hb2⟩
  have hbel2 := bl_trans hbel1 hb2
  go_wp2_with fail
  go_ret
  exact ⟨rfl, hbel2⟩
end Go.Proofs.YtanflcccjjbkgaaDoor
