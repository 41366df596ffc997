/- Addresses: any text is read. -/
import Derived.Test.YtgdgklibilddgaaDoorAdE
namespace Go.Proofs.YtgdgklibilddgaaDoor
open Go.RowKit

theorem cutL_size : ∀ l : List UInt8, (cutL l).1.length ≤ l.length ∧ (cutL l).2.1.length ≤ l.length
  | [] => by simp [cutL]
  | x :: r => by
    have ih := cutL_size r
    rw [cutL]
    split
    · simp; omega
    · split
      · simp; omega
      · simp
/-- what the reading of an address answers -/
def parseV : Option (Bool × Nat) → Value
  | some (v, n) => .tuple #[AddrV v n, .int .i64 0]
  | none => .tuple #[AddrV false 0, .int .i64 4]
def joinP (cut : Bool) : Option (List Nat) → Option (List Nat) → Option (Bool × Nat)
  | some l, some r => if (cut = true ∧ l.length + r.length ≤ 7) ∨ (cut = false ∧ l.length + r.length = 8) then some (true, valG (l ++ nulls (8 - l.length - r.length) ++ r)) else none
  | _, _ => none
theorem parseA_join {s : List UInt8} (h : (58 : UInt8) ∈ s) : parseA s = joinP (cutL s).2.2 (side (!(cutL s).2.2) (cutL s).1) (side true (cutL s).2.1) := by
  unfold parseA; rw [if_pos h]
  cases side (!(cutL s).2.2) (cutL s).1 <;> cases side true (cutL s).2.1 <;> rfl
theorem joinP_some (cut : Bool) (l r : List Nat) : joinP cut (some l) (some r) = if (cut = true ∧ l.length + r.length ≤ 7) ∨ (cut = false ∧ l.length + r.length = 8) then some (true, valG (l ++ nulls (8 - l.length - r.length) ++ r)) else none := rfl
theorem hi_zero : hi 0 = 0 := rfl
theorem lo_zero : lo 0 = 0 := rfl
theorem bts_mk (l : List UInt8) : bts ⟨l.toArray⟩ = l := by simp [bts]
set_option maxRecDepth 100000 in
set_option maxHeartbeats 3200000 in
theorem parse_c (s : ByteArray) (w : World) (hs : s.size ≤ 1000000) (hG : Glob w) :
    Calls Tryd.prog 12 #[.string s] w fun e w' => e = .returned (parseV (parseA (bts s))) ∧ Below w.heap.size w w' := by
  have HH := Lib.hid (fun w => has_c s 58 w)
  by_cases h58 : (58 : UInt8) ∈ bts s
  · have d58 : decide ((58 : UInt8) ∈ bts s) = true := by simp [h58]
    rw [d58] at HH
    obtain ⟨m, hm⟩ := hG.max
    have HC := Lib.hid (fun w (hG : Glob w) => hG.max.elim fun m hm => Tryd.strings_Cut s ⟨#[58, 58]⟩ m w (by omega) hm)
    have hcut : Lib.cut s.data.toList (ByteArray.mk #[58, 58]).data.toList = cutL (bts s) := cut_eq _
    rw [hcut] at HC
    have hsz := cutL_size (bts s)
    have hbl : (bts s).length = s.size := by simp [bts]
    have hP := parseA_join h58
    rw [hP]
    clear hP hcut
    generalize (cutL (bts s)).1 = p at *
    generalize (cutL (bts s)).2.1 = q at *
    generalize (cutL (bts s)).2.2 = cut at *
    have HS1 := Lib.hid (fun w hG => side_c ⟨p.toArray⟩ (!cut) w (by show p.toArray.size ≤ _; rw [List.size_toArray]; omega) hG)
    have HS2 := Lib.hid (fun w hG => side_c ⟨q.toArray⟩ true w (by show q.toArray.size ≤ _; rw [List.size_toArray]; omega) hG)
    rw [bts_mk] at HS1 HS2
    clear hsz hbl hm
    go_enter Tryd.func12, Tryd.ntmps12
    go_wp2_with fail
    refine (HH.out _).mono ?_
    rintro e w1 ⟨rfl, rfl⟩
    have hR1 : Blk (w.alloc (Obj.cells #[Value.bool false, Value.int IntKind.u64 0, Value.int IntKind.u64 0] 26)) w.heap.size 26 (AddrC false 0) := Blk.new w 26 (AddrC false 0)
    have hG1 : Glob (w.alloc (Obj.cells #[Value.bool false, Value.int IntKind.u64 0, Value.int IntKind.u64 0] 26)) := hG.after (by repeat (first | (with_reducible exact Below.refl _ _) | (with_reducible assumption) | (with_reducible refine bl_alloc ?_ _) | (with_reducible refine bl_drew ?_) | (with_reducible refine bl_drewN ?_ _) | (with_reducible refine bl_set ?_ (by first | (simp; done) | (simp; omega)) _) | (with_reducible refine bl_trans ?_ ‹_›)))
    have hbel1 : Below w.heap.size w (w.alloc (Obj.cells #[Value.bool false, Value.int IntKind.u64 0, Value.int IntKind.u64 0] 26)) := (by repeat (first | (with_reducible exact Below.refl _ _) | (with_reducible assumption) | (with_reducible refine bl_alloc ?_ _) | (with_reducible refine bl_drew ?_) | (with_reducible refine bl_drewN ?_ _) | (with_reducible refine bl_set ?_ (by first | (simp; done) | (simp; omega)) _) | (with_reducible refine bl_trans ?_ ‹_›)))
    have hsz1 : w.heap.size < (w.alloc (Obj.cells #[Value.bool false, Value.int IntKind.u64 0, Value.int IntKind.u64 0] 26)).heap.size := by simp
    generalize w.alloc (Obj.cells #[Value.bool false, Value.int IntKind.u64 0, Value.int IntKind.u64 0] 26) = w1 at *
    clear HH hG d58
    go_wp2_with fail
    refine (HC.out _ hG1).mono ?_
    rintro e w2 ⟨rfl, kd, rfl⟩
    have hR2 : Blk (w1.drewN kd) w.heap.size 26 (AddrC false 0) := hR1
    have hb1 : Below w1.heap.size w1 (w1.drewN kd) := (by repeat (first | (with_reducible exact Below.refl _ _) | (with_reducible assumption) | (with_reducible refine bl_alloc ?_ _) | (with_reducible refine bl_drew ?_) | (with_reducible refine bl_drewN ?_ _) | (with_reducible refine bl_set ?_ (by first | (simp; done) | (simp; omega)) _) | (with_reducible refine bl_trans ?_ ‹_›)))
    have hG2 : Glob (w1.drewN kd) := hG1.after hb1
    have hbel2 := bl_trans hbel1 hb1
    have hsz2 : w.heap.size < (w1.drewN kd).heap.size := hsz1
    generalize w1.drewN kd = w2 at *
    clear hR1 hG1 hbel1 hsz1 hb1 HC
    go_wp2_with fail
    refine (HS1.out _ hG2).mono ?_
    rintro e w3 ⟨⟨v1, ok1, rfl, hv1⟩, hb3⟩
    have hR3 := hR2.after hb3
    have hG3 := hG2.after hb3
    have hbel3 := bl_trans hbel2 hb3
    have hsz3 : w2.heap.size ≤ w3.heap.size := hb3.size
    clear HS1
    go_wp2_with fail
    refine (HS2.out _ hG3).mono ?_
    rintro e w4 ⟨⟨v2, ok2, rfl, hv2⟩, hb4⟩
    have hR4 := hR3.after hb4
    have hbel4 := bl_trans hbel3 hb4
    have hsz4 : w3.heap.size ≤ w4.heap.size := hb4.size
    clear HS2 hG2 hG3 hR2 hR3
    obtain ⟨c0, c1, c2, _⟩ := blk_adr hR4
    have z0 := hR4.frozen 0
    have z1 := hR4.frozen 1
    have z2 := hR4.frozen 2
    rcases hv1 with ⟨hs1, rfl, a1, n1, k1, rfl, hn1⟩ | ⟨G1, hs1, rfl, hown1, hl1, hg1⟩
    · obtain ⟨a2, n2, k2, rfl, hn2⟩ : ∃ a2 n2 k2, v2 = .slice a2 n2 k2 ∧ n2 ≤ 1000010 := by
        rcases hv2 with ⟨_, _, h⟩ | ⟨G2, _, _, h, h2, _⟩
        · exact h
        · obtain ⟨a, c, rfl⟩ := own_slice h
          exact ⟨a, _, c, rfl, h2⟩
      have hj : joinP cut (side (!cut) p) (side true q) = none := by rw [hs1]; rfl
      have HJ := Lib.hid hj
      clear hj hs1 hv2
      go_wp2_with fail
      obtain ⟨r0, r1, r2, _⟩ := blk_adr (v := false) (n := 0) (((hR4.put 0 (.bool false)).put 1 (.int .u64 0)).put 2 (.int .u64 0))
      refine bodyPost_ret (v := .tuple #[.agg #[.bool false, .int .u64 0, .int .u64 0], .int .i64 4]) (by simp [results, Tryd.results12, go_sem, r0, r1, r2, hi_zero, lo_zero]) rfl ⟨by rw [HJ.out]; rfl, (by repeat (first | (with_reducible exact Below.refl _ _) | (with_reducible assumption) | (with_reducible refine bl_alloc ?_ _) | (with_reducible refine bl_drew ?_) | (with_reducible refine bl_drewN ?_ _) | (with_reducible refine bl_set ?_ (by first | (simp; done) | (simp; omega)) _) | (with_reducible refine bl_trans ?_ ‹_›)))⟩
    rcases hv2 with ⟨hs2, rfl, a2, n2, k2, rfl, hn2⟩ | ⟨G2, hs2, rfl, hown2, hl2, hg2⟩
    · obtain ⟨a1, k1, rfl⟩ := own_slice hown1
      have hj : joinP cut (side (!cut) p) (side true q) = none := by rw [hs2]; unfold joinP; cases side (!cut) p <;> rfl
      have HJ := Lib.hid hj
      clear hj hs1 hs2 hown1
      generalize G1.length = n1 at *
      go_wp2_with fail
      obtain ⟨r0, r1, r2, _⟩ := blk_adr (v := false) (n := 0) (((hR4.put 0 (.bool false)).put 1 (.int .u64 0)).put 2 (.int .u64 0))
      refine bodyPost_ret (v := .tuple #[.agg #[.bool false, .int .u64 0, .int .u64 0], .int .i64 4]) (by simp [results, Tryd.results12, go_sem, r0, r1, r2, hi_zero, lo_zero]) rfl ⟨by rw [HJ.out]; rfl, (by repeat (first | (with_reducible exact Below.refl _ _) | (with_reducible assumption) | (with_reducible refine bl_alloc ?_ _) | (with_reducible refine bl_drew ?_) | (with_reducible refine bl_drewN ?_ _) | (with_reducible refine bl_set ?_ (by first | (simp; done) | (simp; omega)) _) | (with_reducible refine bl_trans ?_ ‹_›)))⟩
    have ho1 := own_lower (own_after hown1 hb4) (Nat.zero_le _)
    have ho2 := own_lower hown2 (Nat.zero_le _)
    by_cases hc : (cut = true ∧ G1.length + G2.length ≤ 7) ∨ (cut = false ∧ G1.length + G2.length = 8)
    · have h8 : G1.length + G2.length ≤ 8 := by omega
      have HL := Lib.hid (long6_c v1 v2 G1 G2 w4 ho1 ho2 hg1 hg2 h8)
      obtain ⟨a1, k1, rfl⟩ := own_slice hown1
      obtain ⟨a2, k2, rfl⟩ := own_slice hown2
      have hj : joinP cut (side (!cut) p) (side true q) = some (true, valG (G1 ++ nulls (8 - (G1.length + G2.length)) ++ G2)) := by rw [hs1, hs2, joinP_some, if_pos hc, Nat.sub_sub]
      have HJ := Lib.hid hj
      clear hj hown1 hown2 ho1 ho2 hg1 hg2 hs1 hs2
      generalize valG (G1 ++ nulls (8 - (G1.length + G2.length)) ++ G2) = V at *
      generalize G1.length = n1 at *
      generalize G2.length = n2 at *
      rcases hc with ⟨rfl, hc⟩ | ⟨rfl, hc⟩
      · have hd : ¬ (8 ≤ (n1 : Int) + n2) := by omega
        go_wp2_with fail
        refine HL.out.mono ?_
        rintro e w5 ⟨rfl, hb5⟩
        have hR5 := hR4.after hb5
        have hbel5 := bl_trans hbel4 hb5
        obtain ⟨d0, d1, d2, _⟩ := blk_adr hR5
        have y0 := hR5.frozen 0
        have y1 := hR5.frozen 1
        have y2 := hR5.frozen 2
        clear c0 c1 c2 z0 z1 z2
        rw [AddrV_eq]
        unfold AddrC
        go_wp2_with fail
        obtain ⟨r0, r1, r2, _⟩ := blk_adr (v := true) (n := V) (((hR5.put 0 (.bool true)).put 1 (.int .u64 (hi V))).put 2 (.int .u64 (lo V)))
        refine bodyPost_ret (v := .tuple #[AddrV true V, .int .i64 0]) (by unfold AddrV; simp [results, Tryd.results12, go_sem, r0, r1, r2]) rfl ⟨by rw [HJ.out]; rfl, (by repeat (first | (with_reducible exact Below.refl _ _) | (with_reducible assumption) | (with_reducible refine bl_alloc ?_ _) | (with_reducible refine bl_drew ?_) | (with_reducible refine bl_drewN ?_ _) | (with_reducible refine bl_set ?_ (by first | (simp; done) | (simp; omega)) _) | (with_reducible refine bl_trans ?_ ‹_›)))⟩
      · have hd : (n1 : Int) + n2 = 8 := by omega
        go_wp2_with fail
        refine HL.out.mono ?_
        rintro e w5 ⟨rfl, hb5⟩
        have hR5 := hR4.after hb5
        have hbel5 := bl_trans hbel4 hb5
        obtain ⟨d0, d1, d2, _⟩ := blk_adr hR5
        have y0 := hR5.frozen 0
        have y1 := hR5.frozen 1
        have y2 := hR5.frozen 2
        clear c0 c1 c2 z0 z1 z2
        rw [AddrV_eq]
        unfold AddrC
        go_wp2_with fail
        obtain ⟨r0, r1, r2, _⟩ := blk_adr (v := true) (n := V) (((hR5.put 0 (.bool true)).put 1 (.int .u64 (hi V))).put 2 (.int .u64 (lo V)))
        refine bodyPost_ret (v := .tuple #[AddrV true V, .int .i64 0]) (by unfold AddrV; simp [results, Tryd.results12, go_sem, r0, r1, r2]) rfl ⟨by rw [HJ.out]; rfl, (by repeat (first | (with_reducible exact Below.refl _ _) | (with_reducible assumption) | (with_reducible refine bl_alloc ?_ _) | (with_reducible refine bl_drew ?_) | (with_reducible refine bl_drewN ?_ _) | (with_reducible refine bl_set ?_ (by first | (simp; done) | (simp; omega)) _) | (with_reducible refine bl_trans ?_ ‹_›)))⟩
    · obtain ⟨a1, k1, rfl⟩ := own_slice hown1
      obtain ⟨a2, k2, rfl⟩ := own_slice hown2
      have hj : joinP cut (side (!cut) p) (side true q) = none := by rw [hs1, hs2, joinP_some, if_neg hc]
      have HJ := Lib.hid hj
      clear hj hown1 hown2 ho1 ho2 hg1 hg2 hs1 hs2
      generalize G1.length = n1 at *
      generalize G2.length = n2 at *
      cases cut
      · have hd : ¬ ((n1 : Int) + n2 = 8) := by simp at hc; omega
        go_wp2_with fail
        obtain ⟨r0, r1, r2, _⟩ := blk_adr (v := false) (n := 0) (((hR4.put 0 (.bool false)).put 1 (.int .u64 0)).put 2 (.int .u64 0))
        refine bodyPost_ret (v := .tuple #[.agg #[.bool false, .int .u64 0, .int .u64 0], .int .i64 4]) (by simp [results, Tryd.results12, go_sem, r0, r1, r2, hi_zero, lo_zero]) rfl ⟨by rw [HJ.out]; rfl, (by repeat (first | (with_reducible exact Below.refl _ _) | (with_reducible assumption) | (with_reducible refine bl_alloc ?_ _) | (with_reducible refine bl_drew ?_) | (with_reducible refine bl_drewN ?_ _) | (with_reducible refine bl_set ?_ (by first | (simp; done) | (simp; omega)) _) | (with_reducible refine bl_trans ?_ ‹_›)))⟩
      · have hd : 8 ≤ (n1 : Int) + n2 := by simp at hc; omega
        go_wp2_with fail
        obtain ⟨r0, r1, r2, _⟩ := blk_adr (v := false) (n := 0) (((hR4.put 0 (.bool false)).put 1 (.int .u64 0)).put 2 (.int .u64 0))
        refine bodyPost_ret (v := .tuple #[.agg #[.bool false, .int .u64 0, .int .u64 0], .int .i64 4]) (by simp [results, Tryd.results12, go_sem, r0, r1, r2, hi_zero, lo_zero]) rfl ⟨by rw [HJ.out]; rfl, (by repeat (first | (with_reducible exact Below.refl _ _) | (with_reducible assumption) | (with_reducible refine bl_alloc ?_ _) | (with_reducible refine bl_drew ?_) | (with_reducible refine bl_drewN ?_ _) | (with_reducible refine bl_set ?_ (by first | (simp; done) | (simp; omega)) _) | (with_reducible refine bl_trans ?_ ‹_›)))⟩
  · have d58 : decide ((58 : UInt8) ∈ bts s) = false := by simp [h58]
    rw [d58] at HH
    have H4 := Lib.hid (fun w hG => parse4_c s w hs hG)
    have hP : parseA (bts s) = (four (pieces 46 (bts s))).map fun t => (false, valB t) := by unfold parseA; rw [if_neg h58]
    rw [hP]
    clear hP
    unfold fourV at H4
    cases h4 : four (pieces 46 (bts s)) with
    | none =>
      rw [h4] at H4
      clear h4
      go_enter Tryd.func12, Tryd.ntmps12
      go_wp2_with fail
      refine (HH.out _).mono ?_
      rintro e w1 ⟨rfl, rfl⟩
      have hR1 : Blk (w.alloc (Obj.cells #[Value.bool false, Value.int IntKind.u64 0, Value.int IntKind.u64 0] 26)) w.heap.size 26 (AddrC false 0) := Blk.new w 26 (AddrC false 0)
      have hG1 : Glob (w.alloc (Obj.cells #[Value.bool false, Value.int IntKind.u64 0, Value.int IntKind.u64 0] 26)) := hG.after (by repeat (first | (with_reducible exact Below.refl _ _) | (with_reducible assumption) | (with_reducible refine bl_alloc ?_ _) | (with_reducible refine bl_drew ?_) | (with_reducible refine bl_drewN ?_ _) | (with_reducible refine bl_set ?_ (by first | (simp; done) | (simp; omega)) _) | (with_reducible refine bl_trans ?_ ‹_›)))
      have hbel1 : Below w.heap.size w (w.alloc (Obj.cells #[Value.bool false, Value.int IntKind.u64 0, Value.int IntKind.u64 0] 26)) := (by repeat (first | (with_reducible exact Below.refl _ _) | (with_reducible assumption) | (with_reducible refine bl_alloc ?_ _) | (with_reducible refine bl_drew ?_) | (with_reducible refine bl_drewN ?_ _) | (with_reducible refine bl_set ?_ (by first | (simp; done) | (simp; omega)) _) | (with_reducible refine bl_trans ?_ ‹_›)))
      have hsz1 : w.heap.size < (w.alloc (Obj.cells #[Value.bool false, Value.int IntKind.u64 0, Value.int IntKind.u64 0] 26)).heap.size := by simp
      generalize w.alloc (Obj.cells #[Value.bool false, Value.int IntKind.u64 0, Value.int IntKind.u64 0] 26) = w1 at *
      clear HH hG d58
      go_wp2_with fail
      refine (H4.out _ hG1).mono ?_
      rintro e w2 ⟨rfl, hb2⟩
      have hR2 := hR1.after hb2
      have hbel2 := bl_trans hbel1 hb2
      obtain ⟨c0, c1, c2, _⟩ := blk_adr hR2
      have z0 := hR2.frozen 0
      have z1 := hR2.frozen 1
      have z2 := hR2.frozen 2
      go_wp2_with fail
      obtain ⟨r0, r1, r2, _⟩ := blk_adr (v := false) (n := 0) (((hR2.put 0 (.bool false)).put 1 (.int .u64 0)).put 2 (.int .u64 0))
      refine bodyPost_ret (v := .tuple #[.agg #[.bool false, .int .u64 0, .int .u64 0], .int .i64 4]) (by simp [results, Tryd.results12, go_sem, r0, r1, r2, hi_zero, lo_zero]) rfl ⟨rfl, (by repeat (first | (with_reducible exact Below.refl _ _) | (with_reducible assumption) | (with_reducible refine bl_alloc ?_ _) | (with_reducible refine bl_drew ?_) | (with_reducible refine bl_drewN ?_ _) | (with_reducible refine bl_set ?_ (by first | (simp; done) | (simp; omega)) _) | (with_reducible refine bl_trans ?_ ‹_›)))⟩
    | some t =>
      rw [h4] at H4
      obtain ⟨t4, t5⟩ := four_lt h4
      have hv := valB_lt t (fun k hk => by have := t5 k hk; omega)
      rw [t4] at hv
      have HV := Lib.hid (fun w => v4_c (valB t) w hv)
      clear h4 t4 t5
      go_enter Tryd.func12, Tryd.ntmps12
      go_wp2_with fail
      refine (HH.out _).mono ?_
      rintro e w1 ⟨rfl, rfl⟩
      have hR1 : Blk (w.alloc (Obj.cells #[Value.bool false, Value.int IntKind.u64 0, Value.int IntKind.u64 0] 26)) w.heap.size 26 (AddrC false 0) := Blk.new w 26 (AddrC false 0)
      have hG1 : Glob (w.alloc (Obj.cells #[Value.bool false, Value.int IntKind.u64 0, Value.int IntKind.u64 0] 26)) := hG.after (by repeat (first | (with_reducible exact Below.refl _ _) | (with_reducible assumption) | (with_reducible refine bl_alloc ?_ _) | (with_reducible refine bl_drew ?_) | (with_reducible refine bl_drewN ?_ _) | (with_reducible refine bl_set ?_ (by first | (simp; done) | (simp; omega)) _) | (with_reducible refine bl_trans ?_ ‹_›)))
      have hbel1 : Below w.heap.size w (w.alloc (Obj.cells #[Value.bool false, Value.int IntKind.u64 0, Value.int IntKind.u64 0] 26)) := (by repeat (first | (with_reducible exact Below.refl _ _) | (with_reducible assumption) | (with_reducible refine bl_alloc ?_ _) | (with_reducible refine bl_drew ?_) | (with_reducible refine bl_drewN ?_ _) | (with_reducible refine bl_set ?_ (by first | (simp; done) | (simp; omega)) _) | (with_reducible refine bl_trans ?_ ‹_›)))
      have hsz1 : w.heap.size < (w.alloc (Obj.cells #[Value.bool false, Value.int IntKind.u64 0, Value.int IntKind.u64 0] 26)).heap.size := by simp
      generalize w.alloc (Obj.cells #[Value.bool false, Value.int IntKind.u64 0, Value.int IntKind.u64 0] 26) = w1 at *
      clear HH hG d58
      go_wp2_with fail
      refine (H4.out _ hG1).mono ?_
      rintro e w2 ⟨rfl, hb2⟩
      have hR2 := hR1.after hb2
      have hbel2 := bl_trans hbel1 hb2
      go_wp2_with fail
      refine (HV.out _).mono ?_
      rintro e w3 ⟨rfl, hb3⟩
      have hR3 := hR2.after hb3
      have hbel3 := bl_trans hbel2 hb3
      obtain ⟨c0, c1, c2, _⟩ := blk_adr hR3
      have z0 := hR3.frozen 0
      have z1 := hR3.frozen 1
      have z2 := hR3.frozen 2
      rw [AddrV_eq]
      unfold AddrC
      go_wp2_with fail
      obtain ⟨r0, r1, r2, _⟩ := blk_adr (v := false) (n := valB t) (((hR3.put 0 (.bool false)).put 1 (.int .u64 (hi (valB t)))).put 2 (.int .u64 (lo (valB t))))
      refine bodyPost_ret (v := .tuple #[AddrV false (valB t), .int .i64 0]) (by unfold AddrV; simp [results, Tryd.results12, go_sem, r0, r1, r2]) rfl ⟨rfl, (by repeat (first | (with_reducible exact Below.refl _ _) | (with_reducible assumption) | (with_reducible refine bl_alloc ?_ _) | (with_reducible refine bl_drew ?_) | (with_reducible refine bl_drewN ?_ _) | (with_reducible refine bl_set ?_ (by first | (simp; done) | (simp; omega)) _) | (with_reducible refine bl_trans ?_ ‹_›)))⟩
end Go.Proofs.YtgdgklibilddgaaDoor
