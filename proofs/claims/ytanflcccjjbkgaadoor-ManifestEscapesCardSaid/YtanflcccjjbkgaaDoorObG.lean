/- Objects: Shape of one whose fields are its kind's. -/
import Derived.Test.YtanflcccjjbkgaaDoorObF
import Derived.Deep.AppendSrc
import Derived.Deep.DeepCutAuto
import Derived.Deep.CutBlock
namespace Go.Proofs.YtanflcccjjbkgaaDoor
open Go.RowKit

theorem info_i64 : (Tryd.prog.info? 3).map (fun i => (i.zero, i.size, i.bytes)) = some (some (.int .i64 0), 1, 8) := by kernel_rfl
def intsV (l : List Int) : List Value := l.map (Value.int .i64)
theorem own_ints (w : World) (l : List Int) (hl : l.length ≤ maxLen) (base : Nat) (hb : base ≤ w.heap.size) : (w.alloc (.cells (intsV l).toArray 3)).ownsRow base 3 1 (.slice (some ⟨w.heap.size, 0, none⟩) l.length l.length) l.length (intsV l) := by
  refine ⟨by simp [intsV], Or.inr ⟨w.heap.size, l.length, (intsV l).toArray, rfl, hb, ?_, Nat.le_refl _, hl, by simp [intsV], ?_⟩⟩
  · show (w.heap.push _)[w.heap.size]? = _; simp
  · simp [intsV, List.take_of_length_le]
theorem IntsAt.form {w : World} {v : Value} {l : List Int} (h : IntsAt w v l) : ∃ a c, v = .slice a l.length c := by
  rcases h.2 with ⟨a, c, rfl, rfl⟩ | ⟨b, o, c, rfl, _⟩
  · exact ⟨a, c, rfl⟩
  · exact ⟨_, c, rfl⟩
theorem IntsAt.after {w w' : World} {v : Value} {l : List Int} (h : IntsAt w v l) (hb : Below w.heap.size w w') : IntsAt w' v l := by
  refine ⟨h.1, h.2.imp id ?_⟩
  rintro ⟨b, o, c, hv, h0, hc⟩
  exact ⟨b, o, c, hv, h0, fun j hj => (hb.cell (p := ⟨b, o + j, none⟩) (cell_blt (hc j hj))).trans (hc j hj)⟩
theorem PairsAt.after {w w' : World} {v : Value} {l : List (ByteArray × ByteArray)} (h : PairsAt w v l) (hb : Below w.heap.size w w') : PairsAt w' v l := by
  refine ⟨h.1, h.2.imp id ?_⟩
  rintro ⟨b, o, c, hv, h0, hc⟩
  exact ⟨b, o, c, hv, h0, fun j p hj => ⟨(hb.cell (p := ⟨b, o + j * 2, none⟩) (cell_blt (hc j p hj).1)).trans (hc j p hj).1, (hb.cell (p := ⟨b, o + j * 2 + 1, none⟩) (cell_blt (hc j p hj).2)).trans (hc j p hj).2⟩⟩
theorem Reads.after {w w' : World} {o : Ob} {fin : List ByteArray} {lab : List (ByteArray × ByteArray)} {cid : List ByteArray} {fam : List Int} {ips : List ByteArray} (h : Reads w o fin lab cid fam ips) (hb : Below w.heap.size w w') : Reads w' o fin lab cid fam ips :=
  ⟨h.fin.after hb, h.lab.after hb, h.cid.after hb, h.fam.after hb, h.ips.after hb⟩
theorem addr_add (b o j : Nat) : (⟨b, o, none⟩ : Addr).add j = ⟨b, o + j, none⟩ := by unfold Addr.add; split <;> simp_all
theorem setCells_nil (w : World) (b i : Nat) : w.setCells b i [] = w := by
  unfold World.setCells
  simp
theorem within_b (n most : Int) (w : World) : Calls Tryd.prog 69 #[.int .i64 n, .int .i64 most] w fun e w' => e = .returned (.bool (inB n most)) ∧ Below w.heap.size w w' := within_c n most w
theorem inB_iff (n most : Int) : inB n most = true ↔ 0 ≤ n ∧ n ≤ most := by simp [inB]
theorem all_no {L : List Int} {k : Nat} (hk : k < L.length) (h : inB (L.getD k 0) 255 = false) : L.all (inB · 255) = false := by
  rw [List.all_eq_false]
  refine ⟨L[k], List.getElem_mem hk, ?_⟩
  rw [List.getD_eq_getElem?_getD, List.getElem?_eq_getElem hk] at h
  simpa using h
theorem all_yes {L : List Int} (h : ∀ j, j < L.length → inB (L.getD j 0) 255 = true) : L.all (inB · 255) = true := by
  rw [List.all_eq_true]
  intro x hx
  obtain ⟨j, hj, rfl⟩ := List.mem_iff_getElem.1 hx
  have := h j hj
  rwa [List.getD_eq_getElem?_getD, List.getElem?_eq_getElem hj] at this
/-- what is known of the worlds behind the loop -/
structure ShapeAt (w0 : World) (o : Ob) (vo : Value) (fin : List ByteArray) (lab : List (ByteArray × ByteArray)) (cid : List ByteArray) (fam : List Int) (ips : List ByteArray) (w : World) : Prop where
  blk : Blk w w0.heap.size 46 (ObjC o)
  ones : StrsAt w vo (ones o)
  reads : Reads w o fin lab cid fam ips
  below : Below w0.heap.size w0 w
theorem ShapeAt.after {w0 w w' : World} {o : Ob} {vo : Value} {fin : List ByteArray} {lab : List (ByteArray × ByteArray)} {cid : List ByteArray} {fam : List Int} {ips : List ByteArray} (h : ShapeAt w0 o vo fin lab cid fam ips w) (hb : Below w.heap.size w w') : ShapeAt w0 o vo fin lab cid fam ips w' :=
  ⟨h.blk.after hb, h.ones.after hb, h.reads.after hb, bl_trans h.below hb⟩
theorem ShapeAt.cells {w0 w : World} {o : Ob} {vo : Value} {fin : List ByteArray} {lab : List (ByteArray × ByteArray)} {cid : List ByteArray} {fam : List Int} {ips : List ByteArray} (h : ShapeAt w0 o vo fin lab cid fam ips w) :
    w.cell? ⟨w0.heap.size, 2, none⟩ = some (.int .i64 o.uid) ∧ w.cell? ⟨w0.heap.size, 3, none⟩ = some (.int .i64 o.ver) ∧ w.cell? ⟨w0.heap.size, 5, none⟩ = some o.fin.v ∧ w.cell? ⟨w0.heap.size, 6, none⟩ = some o.lab.v ∧ w.cell? ⟨w0.heap.size, 7, none⟩ = some o.cid.v ∧ w.cell? ⟨w0.heap.size, 11, none⟩ = some (.slice o.fam.a fam.length o.fam.c) ∧ w.cell? ⟨w0.heap.size, 12, none⟩ = some o.ips.v := by
  refine ⟨h.blk.cell 2, h.blk.cell 3, h.blk.cell 5, h.blk.cell 6, h.blk.cell 7, ?_, h.blk.cell 12⟩
  obtain ⟨a, c, hv⟩ := h.reads.fam.form
  unfold Sl.v at hv
  injection hv with v1 v2 v3
  rw [← v2]; exact h.blk.cell 11
set_option maxRecDepth 100000 in
set_option maxHeartbeats 3200000 in
theorem shape_go (o : Ob) (w : World) (h1 : 1 ≤ o.kind) (h4 : o.kind ≤ 4) (hn : nullB (bareO o) = true) (fin : List ByteArray) (lab : List (ByteArray × ByteArray)) (cid : List ByteArray) (fam : List Int) (ips : List ByteArray) (hr : Reads w o fin lab cid fam ips) :
    Calls Tryd.prog 35 #[ObjV o] w fun e w' => e = .returned (.bool ((o.type :: o.pol :: o.hb :: fam).all (inB · 255) && (inB o.uid 1099511627776 && (inB o.ver 1099511627776 && (textsB (ones o) 7 && (textsB fin 4 && (textsB cid 8 && (textsB ips 8 && (decide ((fam.length : Int) ≤ 8) && labelsB lab))))))))) ∧ Below w.heap.size w w' := by
  rw [ObjV_eq]
  have HC := Lib.hid (fun w => bare_c o h1 h4 w)
  have HS := Lib.hid (fun w => sameNull_c (bareO o) w)
  rw [hn] at HS
  clear hn
  have d1 : decide (o.kind < 1) = false := decide_eq_false (by omega)
  have d4 : decide (4 < o.kind) = false := decide_eq_false (by omega)
  clear h1 h4
  go_enter Tryd.func35, Tryd.ntmps35
  go_upto_region 1 with (fail)
  have hA : Blk (w.alloc (.cells (ObjC o) 46)) w.heap.size 46 (ObjC o) := Blk.new _ _ _
  have hbel : Below w.heap.size w (w.alloc (.cells (ObjC o) 46)) := (by repeat (first | (with_reducible exact Below.refl _ _) | (with_reducible assumption) | (with_reducible refine bl_alloc ?_ _) | (with_reducible refine bl_drew ?_) | (with_reducible refine bl_drewN ?_ _) | (with_reducible refine bl_set ?_ (by first | (simp; done) | (simp; omega)) _) | (with_reducible refine bl_trans ?_ ‹_›)))
  generalize w.alloc (.cells (ObjC o) 46) = wz at *
  have c0 : wz.cell? ⟨w.heap.size, 0, none⟩ = some (.int .i64 o.kind) := hA.cell 0
  go_wp2_with (refine wpList_load_want rfl 46 _ rfl w.heap.size rfl 46 (ObjC o) (0, 0) _ hA Tryd.underlying46 rfl (by kernel_rfl) ?_)
  refine (HC.out _).mono ?_
  rintro e w1 ⟨rfl, hb1⟩
  have hA1 := hA.after hb1
  have hbel1 := bl_trans hbel hb1
  clear hA hbel hb1 c0
  generalize bareO o = B at *
  go_wp2_with fail
  refine (HS.out _).mono ?_
  rintro e w2 ⟨rfl, hb2⟩
  have hA2 := hA1.after hb2
  have hbel2 := bl_trans hbel1 hb2
  clear hA1 hbel1 hb2
  obtain ⟨i0, hi0, hz0, hz1, hz2⟩ := info_parts info_i64
  go_upto_region 3 with (fail)
  go_cut [21, 22, 23, 24, 25, 26, 27, 28, 29, 30, 31, 32] (fun s21 s22 s23 s24 s25 s26 s27 s28 s29 s30 s31 s32 wc => s31 = .int .i64 (3 + fam.length : Nat) ∧ s32 = .int .i64 0 ∧ wc.ownsRow w2.heap.size 3 1 s30 (3 + fam.length) (intsV ([o.type, o.pol, o.hb] ++ fam)) ∧ Blk wc w.heap.size 46 (ObjC o) ∧ Below w.heap.size w wc)
  case first =>
    have hr2 := (hr.after hbel2).fam
    have e9 : w2.cell? ⟨w.heap.size, 9, none⟩ = some (.int .i64 o.type) := hA2.cell 9
    have e10 : w2.cell? ⟨w.heap.size, 10, none⟩ = some (.int .i64 o.pol) := hA2.cell 10
    have e15 : w2.cell? ⟨w.heap.size, 15, none⟩ = some (.int .i64 o.hb) := hA2.cell 15
    have e11 : (w2.alloc (.cells #[.int .i64 o.type, .int .i64 o.pol, .int .i64 o.hb] 3)).cell? ⟨w.heap.size, 11, none⟩ = some (.slice o.fam.a o.fam.n o.fam.c) := (hA2.alloc _).cell 11
    have hown : (w2.alloc (.cells #[.int .i64 o.type, .int .i64 o.pol, .int .i64 o.hb] 3)).ownsRow w2.heap.size 3 1 (.slice (some ⟨w2.heap.size, 0, none⟩) 3 3) 3 (intsV [o.type, o.pol, o.hb]) := own_ints w2 [o.type, o.pol, o.hb] (by simp [maxLen]) w2.heap.size (Nat.le_refl _)
    have hlt := hA2.lt
    have hz2' := hbel2.size
    rcases hr2 with ⟨hl6, ⟨a, c, hv, rfl⟩ | ⟨b, of, c, hv, h0, hc⟩⟩
    · unfold Sl.v at hv
      injection hv with v1 v2 v3
      rw [v1, v2, v3] at e11
      clear v1 v2 v3
      rcases a with _ | a
      all_goals
        go_wp2_with fail
        go_meet
        case rel => exact ⟨rfl, rfl, by rw [List.append_nil]; exact hown, (by repeat (first | (with_reducible assumption) | (with_reducible refine blk_fill (u := .int .u64 0) (v := .int .u64 0) ?_) | (with_reducible refine Blk.drew ?_) | (with_reducible refine Blk.new' _ _ _ _ (by first | (with_reducible rfl) | (simp; done))) | (with_reducible refine Blk.alloc ?_ _) | (with_reducible refine Blk.after ?_ ‹_›) | (with_reducible refine Blk.far ?_ (by first | (simp; done) | (simp; omega)) _))), (by repeat (first | (with_reducible exact Below.refl _ _) | (with_reducible assumption) | (with_reducible refine bl_alloc ?_ _) | (with_reducible refine bl_drew ?_) | (with_reducible refine bl_drewN ?_ _) | (with_reducible refine bl_set ?_ (by first | (simp; done) | (simp; omega)) _) | (with_reducible refine bl_trans ?_ ‹_›)))⟩
    · unfold Sl.v at hv
      injection hv with v1 v2 v3
      rw [v1, v2, v3] at e11
      have hcl : ∀ j u, (intsV fam)[j]? = some u → (w2.alloc (.cells #[.int .i64 o.type, .int .i64 o.pol, .int .i64 o.hb] 3)).cell? ((⟨b, of, none⟩ : Addr).add j) = some u := by
        intro j u hu
        have hj : j < fam.length := by
          rcases Nat.lt_or_ge j fam.length with e | e
          · exact e
          · rw [List.getElem?_eq_none (by simpa [intsV] using e)] at hu; cases hu
        have ea := addr_add b of j
        rw [ea, World.cell?_of_block (Below.heap_alloc _ _ b (cell_blt (hc j hj))), hc j hj]
        simp [intsV, List.getElem?_eq_getElem hj] at hu
        simp [List.getD, List.getElem?_eq_getElem hj, hu]
      have HCL := Lib.hid hcl
      have g1 : (intsV fam).length = fam.length * 1 := by simp [intsV]
      have g2 : ∀ u ∈ intsV fam, u.oneCell' = true := fun u hu => by simp [intsV] at hu; obtain ⟨n, _, rfl⟩ := hu; rfl
      have g3 : 3 + fam.length ≤ maxLen := by simp only [maxLen]; omega
      have g4 : (3 + fam.length) * 8 ≤ 140737488355328 := by omega
      have g5 : w2.heap.size ≤ (w2.alloc (.cells #[.int .i64 o.type, .int .i64 o.pol, .int .i64 o.hb] 3)).heap.size := by simp
      have G1 := Lib.hid g1
      clear hcl hc g1
      go_wp2_with (at_builtin; refine wpList_append_own _ rfl _ _ 44 rfl w2.heap.size 3 i0 (.int .i64 0) 1 8 Tryd.underlying44 hi0 hz0 hz1 hz2 rfl (by decide) _ _ _ rfl hown ⟨b, of, none⟩ fam.length c (intsV fam) rfl G1.out HCL.out g2 g3 g4 g5 ?_)
      intro v' w3 hown' hgrow _
      obtain ⟨gv, cv, rfl⟩ : ∃ gv cv, v' = .slice gv (3 + fam.length) cv := by
        rcases hown'.2 with ⟨rfl, h⟩ | ⟨g, cap, cur, hv, _⟩
        · exact absurd h (by omega)
        · exact ⟨_, _, hv⟩
      have hbel3 : Below w.heap.size w w3 := (bl_alloc hbel2 _).grown hgrow (by simp; omega) fun k hk => Nat.le_trans hbel2.size ((hown.lt k hk).1)
      go_wp2_with fail
      go_meet
      case rel => exact ⟨by simp, rfl, hown', (hA2.alloc _).grown hgrow (by simp [Value.ownBlock]; omega), hbel3⟩
  case rest =>
    obtain ⟨rfl, rfl, hown, hA, hbel⟩ := hcut
    clear hA2
    have hr3 := hr.after hbel
    have hz2 := hbel2.size
    clear hr hbel2 hi0 hz0 hz1 hz2 HC HS
    obtain ⟨gl, cl, rfl, hgl0, hgl1, _, hcl, _⟩ := own_form hown (by omega)
    clear hown
    have hLl : ([o.type, o.pol, o.hb] ++ fam).length = 3 + fam.length := by simp; omega
    generalize hL : [o.type, o.pol, o.hb] ++ fam = L at *
    have hcells : ∀ j, j < L.length → wc.cell? ⟨gl, j, none⟩ = some (.int .i64 (L.getD j 0)) := fun j hj => hcl j _ (by simp [intsV, List.getD, List.getElem?_eq_getElem hj])
    rw [← hLl]
    have HL := Lib.hid hL
    have HCL := Lib.hid hcells
    have hlen : L.length ≤ 2000000 := by have := hr3.fam.1; omega
    clear hcl hcells hL hLl
    go_wp2_with fail
    go_loopw [32] (fun i wr => ∃ k : Nat, k ≤ L.length ∧ i = .int .i64 k ∧ (∀ j, j < k → inB (L.getD j 0) 255 = true) ∧ Below wc.heap.size wc wr) (fun i _ => L.length - (intOf i).toNat)
    case atStart => exact ⟨0, by omega, rfl, fun j hj => absurd hj (by omega), Below.refl _ _⟩
    case round =>
      obtain ⟨k, hk, rfl, hall, hbel3⟩ := hrel
      have HAL := Lib.hid hall
      clear hall
      by_cases hlt : k < L.length
      · have d1' : (k : Int) < L.length := by omega
        have hcell := (hbel3.cell (p := ⟨gl, k, none⟩) hgl1).trans (HCL.out k hlt)
        obtain ⟨n, hn⟩ : ∃ n, L.getD k 0 = n := ⟨_, rfl⟩
        rw [hn] at hcell
        have HN := Lib.hid hn
        clear hn
        go_wp2_with fail
        refine (within_b n 255 _).mono ?_
        rintro e w4 ⟨rfl, hb4⟩
        have hbel4 := bl_trans hbel3 hb4
        cases hin : inB n 255
        · have hno : (o.type :: o.pol :: o.hb :: fam).all (inB · 255) = false := by have := all_no hlt (by rw [HN.out]; exact hin); rwa [← HL.out] at this
          have HNO := Lib.hid hno
          clear hno
          go_wp2_with fail
          go_ret
          exact ⟨by rw [HNO.out]; rfl, bl_trans hbel hbel4⟩
        · have HIN := Lib.hid hin
          go_wp2_with fail
          go_roundw
          case rel => exact ⟨k + 1, by omega, by go_num, fun j hj => by rcases Nat.lt_or_ge j k with q | q; exact HAL.out j q; (have : j = k := by omega); rw [this, HN.out]; exact HIN.out, hbel4⟩
          case measure => simp [intOf]; omega
      · obtain rfl : k = L.length := by omega
        have d1' : ¬ (L.length : Int) < L.length := by omega
        have HALL : Hid ((o.type :: o.pol :: o.hb :: fam).all (inB · 255) = true) := Lib.hid (by have := all_yes HAL.out; rwa [← HL.out] at this)
        have hA4 := hA.after hbel3
        have hr4 := hr3.after hbel3
        have hbel4 := bl_trans hbel hbel3
        clear hA hr3 hbel hbel3 HAL HCL HL hgl0 hgl1 hz2 hlen
        have f1 : wr.cell? ⟨w.heap.size, 1, none⟩ = some (.string o.name) := hA4.cell 1
        have f8 : wr.cell? ⟨w.heap.size, 8, none⟩ = some (.string o.status) := hA4.cell 8
        have f13 : wr.cell? ⟨w.heap.size, 13, none⟩ = some (.string o.v4) := hA4.cell 13
        have f14 : wr.cell? ⟨w.heap.size, 14, none⟩ = some (.string o.v6) := hA4.cell 14
        have f16 : wr.cell? ⟨w.heap.size, 16, none⟩ = some (.string o.sel) := hA4.cell 16
        have f17 : wr.cell? ⟨w.heap.size, 17, none⟩ = some (.string o.about) := hA4.cell 17
        have f18 : wr.cell? ⟨w.heap.size, 18, none⟩ = some (.string o.reason) := hA4.cell 18
        go_upto_region 10 with (fail)
        clear f1 f8 f13 f14 f16 f17 f18
        have hSt : ShapeAt w o (.slice (some ⟨wr.heap.size, 0, none⟩) 7 7) fin lab cid fam ips (wr.alloc (.cells #[.string o.name, .string o.status, .string o.v4, .string o.v6, .string o.sel, .string o.about, .string o.reason] 9)) := by
          refine ⟨hA4.alloc _, ⟨by simp [ones], .inr ⟨_, 0, 7, rfl, by simp [ones], ?_⟩⟩, hr4.after (Below.alloc (Below.refl _ _) (Nat.le_refl _) _), bl_alloc hbel4 _⟩
          intro j hj
          rw [Nat.zero_add, World.cell?_alloc_new]
          simp only [ones, List.length_cons, List.length_nil] at hj
          match j, hj with
          | 0, _ => rfl
          | 1, _ => rfl
          | 2, _ => rfl
          | 3, _ => rfl
          | 4, _ => rfl
          | 5, _ => rfl
          | 6, _ => rfl
        clear hA4 hr4 hbel4
        generalize wr.alloc (.cells #[.string o.name, .string o.status, .string o.v4, .string o.v6, .string o.sel, .string o.about, .string o.reason] 9) = wo at *
        generalize wr.heap.size = gO at *
        obtain ⟨e2, e3, e5, e6, e7, e11, e12⟩ := hSt.cells
        have u1 : o.fin.v = .slice o.fin.a o.fin.n o.fin.c := rfl
        go_wp2_with fail
        refine (within_b o.uid 1099511627776 _).mono ?_
        rintro e w5 ⟨rfl, hb5⟩
        replace hSt := hSt.after hb5
        clear hb5 e2 e3 e5 e6 e7 e11 e12
        obtain ⟨e2, e3, e5, e6, e7, e11, e12⟩ := hSt.cells
        cases h0 : inB o.uid 1099511627776
        · have hE : ((o.type :: o.pol :: o.hb :: fam).all (inB · 255) && (inB o.uid 1099511627776 && (inB o.ver 1099511627776 && (textsB (ones o) 7 && (textsB fin 4 && (textsB cid 8 && (textsB ips 8 && (decide ((fam.length : Int) ≤ 8) && (labelsB lab))))))))) = false := by simp [HALL.out, h0]
          have HE := Lib.hid hE
          clear hE
          go_wp2_with fail
          go_ret
          exact ⟨by rw [HE.out]; rfl, hSt.below⟩
        go_wp2_with fail
        refine (within_b o.ver 1099511627776 _).mono ?_
        rintro e w6 ⟨rfl, hb6⟩
        replace hSt := hSt.after hb6
        clear hb6 e2 e3 e5 e6 e7 e11 e12
        obtain ⟨e2, e3, e5, e6, e7, e11, e12⟩ := hSt.cells
        cases h1 : inB o.ver 1099511627776
        · have hE : ((o.type :: o.pol :: o.hb :: fam).all (inB · 255) && (inB o.uid 1099511627776 && (inB o.ver 1099511627776 && (textsB (ones o) 7 && (textsB fin 4 && (textsB cid 8 && (textsB ips 8 && (decide ((fam.length : Int) ≤ 8) && (labelsB lab))))))))) = false := by simp [HALL.out, h0, h1]
          have HE := Lib.hid hE
          clear hE
          go_wp2_with fail
          go_ret
          exact ⟨by rw [HE.out]; rfl, hSt.below⟩
        go_wp2_with fail
        refine (texts_c _ (ones o) 7 _ hSt.ones).mono ?_
        rintro e w7 ⟨rfl, hb7⟩
        replace hSt := hSt.after hb7
        clear hb7 e2 e3 e5 e6 e7 e11 e12
        obtain ⟨e2, e3, e5, e6, e7, e11, e12⟩ := hSt.cells
        cases h2 : textsB (ones o) 7
        · have hE : ((o.type :: o.pol :: o.hb :: fam).all (inB · 255) && (inB o.uid 1099511627776 && (inB o.ver 1099511627776 && (textsB (ones o) 7 && (textsB fin 4 && (textsB cid 8 && (textsB ips 8 && (decide ((fam.length : Int) ≤ 8) && (labelsB lab))))))))) = false := by simp [HALL.out, h0, h1, h2]
          have HE := Lib.hid hE
          clear hE
          go_wp2_with fail
          go_ret
          exact ⟨by rw [HE.out]; rfl, hSt.below⟩
        go_wp2_with fail
        refine (texts_c _ fin 4 _ hSt.reads.fin).mono ?_
        rintro e w8 ⟨rfl, hb8⟩
        replace hSt := hSt.after hb8
        clear hb8 e2 e3 e5 e6 e7 e11 e12
        obtain ⟨e2, e3, e5, e6, e7, e11, e12⟩ := hSt.cells
        cases h3 : textsB fin 4
        · have hE : ((o.type :: o.pol :: o.hb :: fam).all (inB · 255) && (inB o.uid 1099511627776 && (inB o.ver 1099511627776 && (textsB (ones o) 7 && (textsB fin 4 && (textsB cid 8 && (textsB ips 8 && (decide ((fam.length : Int) ≤ 8) && (labelsB lab))))))))) = false := by simp [HALL.out, h0, h1, h2, h3]
          have HE := Lib.hid hE
          clear hE
          go_wp2_with fail
          go_ret
          exact ⟨by rw [HE.out]; rfl, hSt.below⟩
        go_wp2_with fail
        refine (texts_c _ cid 8 _ hSt.reads.cid).mono ?_
        rintro e w9 ⟨rfl, hb9⟩
        replace hSt := hSt.after hb9
        clear hb9 e2 e3 e5 e6 e7 e11 e12
        obtain ⟨e2, e3, e5, e6, e7, e11, e12⟩ := hSt.cells
        cases h4 : textsB cid 8
        · have hE : ((o.type :: o.pol :: o.hb :: fam).all (inB · 255) && (inB o.uid 1099511627776 && (inB o.ver 1099511627776 && (textsB (ones o) 7 && (textsB fin 4 && (textsB cid 8 && (textsB ips 8 && (decide ((fam.length : Int) ≤ 8) && (labelsB lab))))))))) = false := by simp [HALL.out, h0, h1, h2, h3, h4]
          have HE := Lib.hid hE
          clear hE
          go_wp2_with fail
          go_ret
          exact ⟨by rw [HE.out]; rfl, hSt.below⟩
        go_wp2_with fail
        refine (texts_c _ ips 8 _ hSt.reads.ips).mono ?_
        rintro e w10 ⟨rfl, hb10⟩
        replace hSt := hSt.after hb10
        clear hb10 e2 e3 e5 e6 e7 e11 e12
        obtain ⟨e2, e3, e5, e6, e7, e11, e12⟩ := hSt.cells
        cases h5 : textsB ips 8
        · have hE : ((o.type :: o.pol :: o.hb :: fam).all (inB · 255) && (inB o.uid 1099511627776 && (inB o.ver 1099511627776 && (textsB (ones o) 7 && (textsB fin 4 && (textsB cid 8 && (textsB ips 8 && (decide ((fam.length : Int) ≤ 8) && (labelsB lab))))))))) = false := by simp [HALL.out, h0, h1, h2, h3, h4, h5]
          have HE := Lib.hid hE
          clear hE
          go_wp2_with fail
          go_ret
          exact ⟨by rw [HE.out]; rfl, hSt.below⟩
        cases h6 : decide ((fam.length : Int) ≤ 8)
        · have hE : ((o.type :: o.pol :: o.hb :: fam).all (inB · 255) && (inB o.uid 1099511627776 && (inB o.ver 1099511627776 && (textsB (ones o) 7 && (textsB fin 4 && (textsB cid 8 && (textsB ips 8 && (decide ((fam.length : Int) ≤ 8) && (labelsB lab))))))))) = false := by simp [HALL.out, h0, h1, h2, h3, h4, h5, h6]
          have HE := Lib.hid hE
          clear hE
          go_wp2_with fail
          go_ret
          exact ⟨by rw [HE.out]; rfl, hSt.below⟩
        go_wp2_with fail
        refine (labels_c _ lab _ hSt.reads.lab).mono ?_
        rintro e w12 ⟨rfl, hb12⟩
        replace hSt := hSt.after hb12
        clear hb12 e2 e3 e5 e6 e7 e11 e12
        obtain ⟨e2, e3, e5, e6, e7, e11, e12⟩ := hSt.cells
        have hE : ((o.type :: o.pol :: o.hb :: fam).all (inB · 255) && (inB o.uid 1099511627776 && (inB o.ver 1099511627776 && (textsB (ones o) 7 && (textsB fin 4 && (textsB cid 8 && (textsB ips 8 && (decide ((fam.length : Int) ≤ 8) && (labelsB lab))))))))) = labelsB lab := by simp [HALL.out, h0, h1, h2, h3, h4, h5, h6]
        have HE := Lib.hid hE
        clear hE
        go_wp2_with fail
        go_ret
        exact ⟨by rw [HE.out]; rfl, hSt.below⟩
end Go.Proofs.YtanflcccjjbkgaaDoor
