/- The walk of the reference's Print. -/
import Derived.Test.YtnhaejbakgjelaaDoorRefG
namespace Go.Proofs.YtnhaejbakgjelaaDoor
open Go.RowKit

/-- a block of bytes just laid is a row of the call's own -/
theorem own_laid (w : World) (l : List Int) (hl : l.length ≤ maxLen) (base : Nat) (hb : base ≤ w.heap.size) : (w.alloc (.cells (bytesV l).toArray 5)).ownsRow base 5 1 (.slice (some ⟨w.heap.size, 0, none⟩) l.length l.length) l.length (bytesV l) := by
  refine ⟨by simp [bytesV], Or.inr ⟨w.heap.size, l.length, (bytesV l).toArray, rfl, hb, ?_, Nat.le_refl _, hl, by simp [bytesV], ?_⟩⟩
  · show (w.heap.push _)[w.heap.size]? = _; simp
  · simp [bytesV, List.take_of_length_le]
theorem one_bytes (l : List Int) : ∀ u ∈ bytesV l, u.oneCell' = true := by
  intro u hu
  simp only [bytesV, List.mem_map] at hu
  obtain ⟨n, _, rfl⟩ := hu
  rfl
/-- the digits that are still to come -/
def restR (k x : Nat) : List Int := if k = 0 ∨ x ≠ 0 then digR (40 - k) x else []
theorem restR_step {k x : Nat} (hk : k < 40) (h : k = 0 ∨ x ≠ 0) : restR k x = (48 + (x % 10 : Nat) : Int) :: restR (k + 1) (x / 10) := by
  unfold restR
  rw [if_pos h, show 40 - k = (40 - (k + 1)) + 1 from by omega]
  show (48 + (x % 10 : Nat) : Int) :: (if x / 10 = 0 then [] else digR (40 - (k + 1)) (x / 10)) = _
  by_cases e : x / 10 = 0
  · rw [if_pos e, if_neg (by omega)]
  · rw [if_neg e, if_pos (Or.inr e)]
theorem restR_end {k x : Nat} (h : ¬ (k = 0 ∨ x ≠ 0)) : restR k x = [] := if_neg h
theorem refover_k (x : Nat) (w : World) (hx : x < 340282366920938463463374607431768211456) :
    Calls Tryd.prog 55 #[numV x, .int .u64 10] w fun e w' => e = .returned (.tuple #[numV (x / 10), .int .u64 (x % 10 : Nat)]) ∧ Below w.heap.size w w' :=
  refover_c x 10 w hx (by omega)
set_option maxRecDepth 100000 in
set_option maxHeartbeats 1600000 in
theorem refprint_c (A : Nat) (w : World) (hA : A < 340282366920938463463374607431768211456) :
    Calls Tryd.prog 34 #[numV A] w fun e w' => e = .returned (.string (strOfNums (decI A))) ∧ Below w.heap.size w w' := by
  obtain ⟨i0, hi0, hz0, hz1, hz2⟩ := info_parts info_u8
  go_enter Tryd.func34, Tryd.ntmps34
  go_wp2_with fail
  go_loopw [3, 4] (fun b i wr => ∃ (k x g cap : Nat) (l : List Int), k ≤ 39 ∧ i = .int .i64 k ∧ x ≤ A ∧ x < 10 ^ (39 - k) ∧ l.length = k ∧ digR 40 A = l.reverse ++ restR k x ∧ Blk wr w.heap.size 56 #[.int .u64 (hi x), .int .u64 (lo x)] ∧
      b = .slice (some ⟨g, 0, none⟩) k cap ∧ k ≤ cap ∧ w.heap.size < g ∧ g < wr.heap.size ∧ (∀ j, j < k → wr.cell? ⟨g, j, none⟩ = some (.int .u8 (l.getD j 0))) ∧ Below w.heap.size w wr) (fun _ i _ => 40 - (intOf i).toNat)
  case atStart =>
    refine ⟨0, A, _, _, [], by omega, rfl, by omega, by omega, rfl, rfl, (by repeat (first | (with_reducible assumption) | (with_reducible refine blk_fill (u := .int .u64 0) (v := .int .u64 0) ?_) | (with_reducible refine Blk.drew ?_) | (with_reducible refine Blk.new' _ _ _ _ (by first | (with_reducible rfl) | (simp; done))) | (with_reducible refine Blk.alloc ?_ _) | (with_reducible refine Blk.after ?_ ‹_›) | (with_reducible refine Blk.far ?_ (by first | (simp; done) | (simp; omega)) _))), rfl, by omega, by simp, by simp, fun j hj => absurd hj (by omega), (by repeat (first | (with_reducible exact Below.refl _ _) | (with_reducible assumption) | (with_reducible refine bl_alloc ?_ _) | (with_reducible refine bl_drew ?_) | (with_reducible refine bl_drewN ?_ _) | (with_reducible refine bl_set ?_ (by first | (simp; done) | (simp; omega)) _) | (with_reducible refine bl_trans ?_ ‹_›)))⟩
  case round =>
    obtain ⟨k, x, g, cap, l, hk, rfl, hxA, hx, hl, hdig, hb1, rfl, hkc, hg0, hg1, hcells, hbel⟩ := hrel
    have k0 := hb1.cell 0
    have k1 := hb1.cell 1
    have z0 := hb1.frozen 0
    have z1 := hb1.frozen 1
    simp at k0 k1
    have hxlt : x < 340282366920938463463374607431768211456 := by omega
    by_cases hgo : k = 0 ∨ x ≠ 0
    · have hst := restR_step (by omega : k < 40) hgo
      have hpart : ((k : Int) == 0) = true ∨ (((k : Int) == 0) = false ∧ decide (0 < hi x) = true) ∨ (((k : Int) == 0) = false ∧ decide (0 < hi x) = false ∧ decide (0 < lo x) = true) := by
        by_cases e : k = 0
        · exact .inl (by simpa using e)
        · refine .inr ?_
          have e' : ((k : Int) == 0) = false := by simpa using e
          by_cases a : 0 < hi x
          · exact .inl ⟨e', decide_eq_true a⟩
          · refine .inr ⟨e', decide_eq_false a, decide_eq_true ?_⟩
            have h0 := hi_nn x
            have h1 := lo_nn x
            have h2 := num_hi_lo hxlt
            rcases Int.lt_or_le 0 (lo x) with b | b
            · exact b
            · have h3 : hi x = 0 := by omega
              have h4 : lo x = 0 := by omega
              rw [h3, h4] at h2
              have : x = 0 := by rw [← h2]; rfl
              rcases hgo with q | q
              · exact absurd q e
              · exact absurd this q
      rw [hst] at hdig
      have HDIG := Lib.hid hdig
      have HL := Lib.hid hl
      have HC := Lib.hid hcells
      have hd : x % 10 < 10 := Nat.mod_lt _ (by omega)
      have hqA : x / 10 ≤ A := Nat.le_trans (Nat.div_le_self _ _) hxA
      have hx2 : k + 1 ≤ 39 ∧ x / 10 < 10 ^ (39 - (k + 1)) := by
        rcases Nat.lt_or_ge k 39 with e | e
        · rw [show 39 - k = (39 - (k + 1)) + 1 from by omega, Nat.pow_succ] at hx
          exact ⟨by omega, by omega⟩
        · exfalso
          obtain rfl : k = 39 := by omega
          rcases hgo with q | q <;> simp at hx <;> omega
      have HX2 := Lib.hid hx2
      clear hst hdig hl hcells hgo hx hx2
      rcases hpart with p1 | ⟨p1, p2⟩ | ⟨p1, p2, p3⟩
      all_goals
        go_wp2_with fail
        refine (refover_k x _ hxlt).mono ?_
        rintro e w1 ⟨rfl, hbw⟩
        have hb2 := hb1.after hbw
        have hc2 : ∀ j, j < k → w1.cell? ⟨g, j, none⟩ = some (.int .u8 (l.getD j 0)) := fun j hj => (hbw.cell (p := ⟨g, j, none⟩) hg1).trans (HC.out j hj)
        have hg2 : g < w1.heap.size := Nat.lt_of_lt_of_le hg1 hbw.size
        have hbel2 := bl_trans hbel hbw
        have HC2 := Lib.hid hc2
        clear hb1 hbel hbw k0 k1 z0 z1 hg1 hc2 HC
        have k0 := hb2.cell 0
        have k1 := hb2.cell 1
        have z0 := hb2.frozen 0
        have z1 := hb2.frozen 1
        simp at k0 k1
        have hlt := hb2.lt
        generalize hd1 : x % 10 = d at *
        generalize hq1 : x / 10 = q at *
        clear hd1 hq1
        have hbl : (bytesV l).length = k * 1 := by simp [bytesV, HL.out]
        have HBL := Lib.hid hbl
        clear hbl
        have hown : ((w1.alloc (.cells #[.int .u64 (hi q), .int .u64 (lo q)] 56)).alloc (.cells #[.int .u8 (48 + (d : Int))] 5)).ownsRow w.heap.size 5 1 (.slice (some ⟨w1.heap.size + 1, 0, none⟩) 1 1) 1 [.int .u8 (48 + (d : Int))] := by
          have := own_laid (w1.alloc (.cells #[.int .u64 (hi q), .int .u64 (lo q)] 56)) [48 + (d : Int)] (by simp [maxLen]) w.heap.size (by rw [size_alloc']; omega)
          rw [size_alloc'] at this
          exact this
        have hcc : ∀ j u, (bytesV l)[j]? = some u → ((w1.alloc (.cells #[.int .u64 (hi q), .int .u64 (lo q)] 56)).alloc (.cells #[.int .u8 (48 + (d : Int))] 5)).cell? ((⟨g, 0, none⟩ : Addr).add j) = some u := by
          intro j u hu
          have hj : j < l.length := by
            rcases Nat.lt_or_ge j l.length with e | e
            · exact e
            · rw [List.getElem?_eq_none (by simpa [bytesV] using e)] at hu; cases hu
          rw [get_bytes hj] at hu
          cases hu
          have ea : (⟨g, 0, none⟩ : Addr).add j = ⟨g, j, none⟩ := by unfold Addr.add; split <;> simp_all
          rw [ea, World.cell?_of_block (Below.heap_alloc _ _ g (by rw [size_alloc']; omega)), World.cell?_of_block (Below.heap_alloc _ _ g hg2)]
          exact HC2.out j (by rw [← HL.out]; exact hj)
        have HC3 := Lib.hid hcc
        clear hcc
        go_wp2_with (at_builtin; refine wpList_append_own _ rfl _ _ 72 rfl w.heap.size 5 i0 (.int .u8 0) 1 1 Tryd.underlying72 hi0 hz0 hz1 hz2 rfl (by decide) _ _ _ rfl hown ⟨g, 0, none⟩ k cap (bytesV l) rfl HBL.out HC3.out (one_bytes l) (by simp only [maxLen]; omega) (by omega) (by rw [size_alloc', size_alloc']; omega) ?_)
        intro v' w2 hown3 hgrow _
        have hbq : Blk (w1.alloc (.cells #[.int .u64 (hi q), .int .u64 (lo q)] 56)) w1.heap.size 56 #[.int .u64 (hi q), .int .u64 (lo q)] := Blk.new _ _ _
        have hbq2 := (hbq.alloc (.cells #[.int .u8 (48 + (d : Int))] 5)).grown hgrow ((hbq.alloc (.cells #[.int .u8 (48 + (d : Int))] 5)).ne_own hown (by decide))
        have hb3 := ((hb2.alloc (.cells #[.int .u64 (hi q), .int .u64 (lo q)] 56)).alloc (.cells #[.int .u8 (48 + (d : Int))] 5)).grown hgrow (((hb2.alloc (.cells #[.int .u64 (hi q), .int .u64 (lo q)] 56)).alloc (.cells #[.int .u8 (48 + (d : Int))] 5)).ne_own hown (by decide))
        have hbel3 : Below w.heap.size w w2 := (bl_alloc (bl_alloc hbel2 (.cells #[.int .u64 (hi q), .int .u64 (lo q)] 56)) (.cells #[.int .u8 (48 + (d : Int))] 5)).grown hgrow (by rw [size_alloc', size_alloc']; omega) fun b hb => (hown.lt b hb).1
        have hne : w.heap.size ≠ w1.heap.size := by omega
        clear hown hgrow hbel2 hb2 hbq k0 k1 z0 z1 HC2 HC3 HBL
        have k0 := hb3.cell 0
        have k1 := hb3.cell 1
        have z0 := hb3.frozen 0
        have z1 := hb3.frozen 1
        have y0 := hbq2.cell 0
        have y1 := hbq2.cell 1
        simp at k0 k1 y0 y1
        obtain ⟨g3, cap3, rfl, hg1, hg2', hg3, hg4, hg5⟩ := own_form hown3 (by omega : 0 < 1 + k)
        have hgx := hb3.ne_own hown3 (by decide)
        have hgq : w.heap.size ≠ g3 := by simpa [Value.ownBlock] using hgx
        have HG4 := Lib.hid hg4
        clear hg4 hg5 hgx hown3
        rw [Nat.add_comm 1 k] at *
        go_wp2_with fail
        go_roundw
        case rel =>
          refine ⟨k + 1, q, g3, cap3, (48 + (d : Int)) :: l, HX2.out.1, by go_num, hqA, HX2.out.2, by simp [HL.out], ?_, (hb3.put 0 _).put 1 _, rfl, hg3, by omega, by simp; omega, ?_, bl_set (bl_set hbel3 (by simp) _) (by simp) _⟩
          · rw [HDIG.out]; simp
          · intro j hj
            rw [World.cell?_setCell_other _ _ _ _ (by simp <;> omega), World.cell?_setCell_other _ _ _ _ (by simp <;> omega)]
            apply HG4.out
            have hln : j < ((48 + (d : Int)) :: l).length := by rw [List.length_cons, HL.out]; exact hj
            exact get_bytes hln
        case measure => simp [intOf]; omega
    · have hkk : k ≠ 0 := fun e => hgo (Or.inl e)
      have hx0 : x = 0 := by rcases Nat.eq_zero_or_pos x with e | e; exact e; exact absurd (Or.inr (by omega)) hgo
      subst hx0
      have p1 : ((k : Int) == 0) = false := by simpa using hkk
      have p2 : decide (0 < hi 0) = false := rfl
      have p3 : decide (0 < lo 0) = false := rfl
      rw [restR_end hgo, List.append_nil] at hdig
      have hfin : decI A = l := by unfold decI; rw [hdig, List.reverse_reverse]
      have hconv := run_convert_bytes_arg (P := Tryd.prog) wr 72 5 Tryd.underlying72 Tryd.underlying5 g 0 k cap l hl (by
        intro j hj
        rw [Nat.zero_add]
        exact hcells j hj) 9 Tryd.underlying9
      have HFIN := Lib.hid hfin
      clear hfin hdig hcells hgo
      go_wp2_with fail
      go_ret
      exact ⟨by rw [HFIN.out]; rfl, hbel⟩
end Go.Proofs.YtnhaejbakgjelaaDoor
