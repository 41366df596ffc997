/- Addresses: the walk of the law of texts read. -/
import Derived.Test.YtgdgklibilddgaaDoorAeF
import Derived.Test.YtgdgklibilddgaaDoorAeB
namespace Go.Proofs.YtgdgklibilddgaaDoor
open Go.RowKit

theorem parseV_form (R : Option (Bool × Nat)) : ∃ v n c, parseV R = .tuple #[.agg #[.bool v, .int .u64 (hi n), .int .u64 (lo n)], .int .i64 c] := by
  cases R with
  | none => exact ⟨false, 0, 4, rfl⟩
  | some x => exact ⟨x.1, x.2, 0, rfl⟩
set_option maxRecDepth 100000 in
set_option maxHeartbeats 1600000 in
theorem addrParses_walk (s : ByteArray) (w : World) (hG : Glob w) :
    Calls Tryd.prog 4 #[.string s] w fun e w' => e = .returned (.bool true) ∧ Below w.heap.size w w' := by
  have HAW := Lib.hid (fun w hG => awake02_c w hG)
  by_cases hl : s.size ≤ 1000
  · have HPA := Lib.hid (fun w hG => parse_c s w (by omega) hG)
    have HRP := Lib.hid (fun w => rparse_c s w (by omega))
    obtain ⟨v, n, c, hRV⟩ := parseV_form (parseA (bts s))
    rw [hRV] at HPA HRP
    have hlI : ¬ (1000 : Int) < s.size := by omega
    clear hRV hl
    go_enter Tryd.func4, Tryd.ntmps4
    go_wp2_with fail
    with_reducible refine (HAW.out _ hG).mono ?_
    rintro e w1 ⟨rfl, hb1⟩
    have hG1 := hG.after hb1
    clear HAW hG
    go_wp2_with fail
    with_reducible refine (HPA.out _ hG1).mono ?_
    rintro e w2 ⟨rfl, hb2⟩
    have hbel := bl_trans hb1 hb2
    clear HPA hG1 hb1 hb2
    go_wp2_with fail
    have hA : Blk (w2.alloc (Obj.cells #[.bool v, .int .u64 (hi n), .int .u64 (lo n)] 26)) (w2.heap.size) 26 (AddrC v n) := (Blk.new' _ _ _ _ (by simp) : Blk (w2.alloc (Obj.cells #[.bool v, .int .u64 (hi n), .int .u64 (lo n)] 26)) (w2.heap.size) 26 (AddrC v n))
    have hbn : Below w2.heap.size w2 (w2.alloc (Obj.cells #[.bool v, .int .u64 (hi n), .int .u64 (lo n)] 26)) := (by repeat (first | (with_reducible exact Below.refl _ _) | (with_reducible assumption) | (with_reducible refine bl_alloc ?_ _) | (with_reducible refine bl_drew ?_) | (with_reducible refine bl_drewN ?_ _) | (with_reducible refine bl_set ?_ (by first | (simp; done) | (simp; omega)) _) | (with_reducible refine bl_trans ?_ ‹_›)))
    replace hbel := bl_trans hbel hbn
    clear hbn
    (try clear hsz)
    have hsz : (w2.alloc (Obj.cells #[.bool v, .int .u64 (hi n), .int .u64 (lo n)] 26)).heap.size = w2.heap.size + 1 := by simp
    generalize w2.alloc (Obj.cells #[.bool v, .int .u64 (hi n), .int .u64 (lo n)] 26) = w3 at *
    with_reducible refine (HRP.out _).mono ?_
    rintro e w4 ⟨rfl, hb4⟩
    replace hA := hA.after hb4
    have hbel4 := bl_trans hbel hb4
    obtain ⟨a0, a1, a2, _⟩ := blk_adr hA
    have az0 := hA.frozen 0
    have az1 := hA.frozen 1
    have az2 := hA.frozen 2
    have al := hA.lt
    have al1 := Nat.lt_succ_of_lt al
    clear hbel hb4 HRP
    go_wp2_with fail
    go_ret
    exact ⟨rfl, (by repeat (first | (with_reducible exact Below.refl _ _) | (with_reducible assumption) | (with_reducible refine bl_alloc ?_ _) | (with_reducible refine bl_drew ?_) | (with_reducible refine bl_drewN ?_ _) | (with_reducible refine bl_set ?_ (by first | (simp; done) | (simp; omega)) _) | (with_reducible refine bl_trans ?_ ‹_›)))⟩
  · have hlI : (1000 : Int) < s.size := by omega
    go_enter Tryd.func4, Tryd.ntmps4
    go_wp2_with fail
    with_reducible refine (HAW.out _ hG).mono ?_
    rintro e w1 ⟨rfl, hb1⟩
    go_wp2_with fail
    go_ret
    exact ⟨rfl, hb1⟩
end Go.Proofs.YtgdgklibilddgaaDoor
