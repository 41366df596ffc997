/- The walk of num.Print. -/
import Derived.Test.YtnhaejbakgjelaaDoorNumE
import Derived.Test.YtnhaejbakgjelaaDoorRefA
import Derived.Test.YtnhaejbakgjelaaDoorBlk
import Derived.Laws.BytesArg
import Derived.Laws.StructEq
namespace Go.Proofs.YtnhaejbakgjelaaDoor
open Go.RowKit

theorem one_cell_k (k : IntKind) (n : Int) : ∀ u ∈ [Value.int k n], u.oneCell' = true := by intro u hu; simp at hu; subst hu; rfl
theorem info_u8 : (Tryd.prog.info? 5).map (fun i => (i.zero, i.size, i.bytes)) = some (some (.int .u8 0), 1, 1) := by kernel_rfl
def digR : Nat → Nat → List Int
  | 0, _ => []
  | f + 1, a => (48 + (a % 10 : Nat) : Int) :: (if a / 10 = 0 then [] else digR f (a / 10))
def decI (a : Nat) : List Int := (digR 40 a).reverse
def bytesV (l : List Int) : List Value := l.map (Value.int .u8)

theorem own_after {w w' : World} {base n : Nat} {e : TypeId} {v : Value} {xs : List Value} (h : w.ownsRow base e 1 v n xs) (hb : Below w.heap.size w w') : w'.ownsRow base e 1 v n xs :=
  h.kept (row := none) ⟨hb.os, hb.tape, hb.output, hb.size, fun k hk _ => hb.block k hk⟩ (by rcases v.ownBlock with _ | g <;> simp)

theorem cell_one' (w : World) (u : Value) (t : TypeId) (g : Nat) (hg : g = w.heap.size) : ∀ j x, [u][j]? = some x → (w.alloc (.cells #[u] t)).cell? ((⟨g, 0, none⟩ : Addr).add j) = some x := by
  subst hg; exact cell_one w u t

theorem own_form {w : World} {base n : Nat} {e : TypeId} {v : Value} {xs : List Value} (h : w.ownsRow base e 1 v n xs) (hn : 0 < n) :
    ∃ g cap, v = .slice (some ⟨g, 0, none⟩) n cap ∧ base ≤ g ∧ g < w.heap.size ∧ n ≤ cap ∧ (∀ j u, xs[j]? = some u → w.cell? ⟨g, j, none⟩ = some u) ∧ ∀ j, w.frozen? ⟨g, j, none⟩ = false := by
  rcases h.2 with ⟨_, h0⟩ | ⟨g, cap, cur, hv, hb, hh, hc, _⟩
  · omega
  · subst hv
    refine ⟨g, cap, rfl, hb, ?_, hc, fun j u hu => ?_, fun j => by simp [World.frozen?, hh]⟩
    · rcases Nat.lt_or_ge g w.heap.size with k | k
      · exact k
      · rw [Array.getElem?_eq_none k] at hh; cases hh
    · have := h.cells (g := g) rfl j u hu
      rw [← this]; congr 1
      unfold Addr.add; split <;> simp_all

def lenV : Value → Nat
  | .slice _ n _ => n
  | _ => 0
theorem own_len {w : World} {base n : Nat} {e : TypeId} {v : Value} {xs : List Value} (h : w.ownsRow base e 1 v n xs) : lenV v = n := by
  rcases h.2 with ⟨rfl, h0⟩ | ⟨g, cap, cur, hv, hb, hh, hc, _⟩
  · exact h0.symm
  · subst hv; rfl
theorem cell_put {w : World} {a : Addr} {x u : Value} (h : w.cell? a = some x) : (w.setCell a u).cell? a = some u := by
  exact World.cell?_setCell_same w a u h
theorem get_bytes {xs : List Int} {j : Nat} (h : j < xs.length) : (bytesV xs)[j]? = some (.int .u8 (xs.getD j 0)) := by
  simp [bytesV, List.getD, h]
/-- the first m and the last m of the k + 1 numbers have changed their places -/
def RevAt (ws : World) (g k m : Nat) (D : Nat → Int) : Prop :=
  (∀ j, j < k + 1 → ws.cell? ⟨g, j, none⟩ = some (.int .u8 (if j < m ∨ k + 1 - m ≤ j then D (k - j) else D j))) ∧ ∀ j, ws.frozen? ⟨g, j, none⟩ = false

theorem rev_step {ws : World} {g k m : Nat} {D : Nat → Int} (h : RevAt ws g k m D) (hm : m < (k + 1) / 2) :
    RevAt ((ws.setCell ⟨g, m, none⟩ (.int .u8 (D (k - m)))).setCell ⟨g, k - m, none⟩ (.int .u8 (D m))).drew g k (m + 1) D := by
  refine ⟨fun j hj => ?_, fun j => by simpa using h.2 j⟩
  show ((ws.setCell ⟨g, m, none⟩ (.int .u8 (D (k - m)))).setCell ⟨g, k - m, none⟩ (.int .u8 (D m))).cell? ⟨g, j, none⟩ = _
  have c1 := h.1 m (by omega)
  have c2 := h.1 (k - m) (by omega)
  by_cases e1 : j = k - m
  · subst e1
    rw [if_pos (by omega), show k - (k - m) = m from by omega]
    have : (ws.setCell ⟨g, m, none⟩ (.int .u8 (D (k - m)))).cell? ⟨g, k - m, none⟩ = some (.int .u8 (if k - m < m ∨ k + 1 - m ≤ k - m then D (k - (k - m)) else D (k - m))) := by
      rw [World.cell?_setCell_other _ _ _ _ (by simp <;> omega)]; exact c2
    exact cell_put this
  · rw [World.cell?_setCell_other _ _ _ _ (by simp <;> omega)]
    by_cases e2 : j = m
    · subst e2
      rw [if_pos (by omega)]
      exact cell_put c1
    · rw [World.cell?_setCell_other _ _ _ _ (by simp <;> omega), h.1 j hj]
      by_cases e3 : j < m ∨ k + 1 - m ≤ j
      · rw [if_pos e3, if_pos (by omega)]
      · rw [if_neg e3, if_neg (by omega)]
theorem rev_end {ws : World} {g k : Nat} {D : Nat → Int} (h : RevAt ws g k ((k + 1) / 2) D) : ∀ j, j < k + 1 → ws.cell? ⟨g, j, none⟩ = some (.int .u8 (D (k - j))) := by
  intro j hj
  rw [h.1 j hj]
  by_cases e : j < (k + 1) / 2 ∨ k + 1 - (k + 1) / 2 ≤ j
  · rw [if_pos e]
  · rw [if_neg e, show k - j = j from by omega]
theorem get_rev {xs : List Int} {j : Nat} (h : j < xs.reverse.length) : xs.reverse.getD j 0 = xs.getD (xs.length - 1 - j) 0 := by
  have h' : j < xs.length := by simpa using h
  simp only [List.getD, List.getElem?_reverse h']
theorem own_set {w : World} {base n : Nat} {e : TypeId} {v : Value} {xs : List Value} (h : w.ownsRow base e 1 v n xs) {p : Addr} (hp : some p.block ≠ v.ownBlock) (u : Value) : (w.setCell p u).ownsRow base e 1 v n xs := by
  obtain ⟨h1, h2⟩ := h
  refine ⟨h1, ?_⟩
  rcases h2 with h2 | ⟨g, cap, cur, hv, hg, hh, r⟩
  · exact Or.inl h2
  · refine Or.inr ⟨g, cap, cur, hv, hg, ?_, r⟩
    rw [Below.heap_setCell]
    · exact hh
    · subst hv; simp [Value.ownBlock] at hp; omega

set_option maxRecDepth 100000 in
set_option maxHeartbeats 1600000 in
theorem print_c (ah al : Int) (w : World) (h0_ah : 0 ≤ ah) (h1_ah : ah < 18446744073709551616) (h0_al : 0 ≤ al) (h1_al : al < 18446744073709551616) :
    Calls Tryd.prog 30 #[.agg #[.int .u64 ah, .int .u64 al]] w fun e w' => e = .returned (.string (strOfNums (decI (num ah al)))) ∧ Below w.heap.size w w' := by
  obtain ⟨i0, hi0, hz0, hz1, hz2⟩ := info_parts info_u8
  obtain ⟨A, hA, rfl, rfl⟩ : ∃ A : Nat, A < 340282366920938463463374607431768211456 ∧ ah = hi A ∧ al = lo A := ⟨num ah al, num_lt h1_ah h1_al, (hi_num h0_ah h1_ah h0_al h1_al).symm, (lo_num h0_al h1_al).symm⟩
  rw [num_hi_lo hA]
  clear h0_ah h1_ah h0_al h1_al
  go_enter Tryd.func30, Tryd.ntmps30
  go_wp2
  go_loopw [3] (fun b wr => ∃ (k x : Nat) (l : List Int), k ≤ 38 ∧ x ≤ A ∧ x < 10 ^ (39 - k) ∧ l.length = k ∧ digR 40 A = l ++ digR (40 - k) x ∧ Blk wr w.heap.size 56 #[.int .u64 (hi x), .int .u64 (lo x)] ∧
      wr.ownsRow w.heap.size 5 1 b k (bytesV l) ∧ Below w.heap.size w wr) (fun b _ => 40 - lenV b)
  case atStart => exact ⟨0, A, [], by omega, by omega, by omega, rfl, rfl, Blk.new _ _ _, World.ownsRow_nil _ _ _ _, (by repeat (first | (with_reducible exact Below.refl _ _) | (with_reducible assumption) | (with_reducible refine bl_alloc ?_ _) | (with_reducible refine bl_drew ?_) | (with_reducible refine bl_drewN ?_ _) | (with_reducible refine bl_set ?_ (by first | (simp; done) | (simp; omega)) _) | (with_reducible refine bl_trans ?_ ‹_›)))⟩
  case round =>
    obtain ⟨k, x, l, hk, hxA, hx, hl, hdig, hb1, hown, hbel⟩ := hrel
    have hlu := own_len hown
    have HLU := Lib.hid hlu
    clear hlu
    have k0 := hb1.cell 0
    have k1 := hb1.cell 1
    have z0 := hb1.frozen 0
    have z1 := hb1.frozen 1
    simp at k0 k1
    go_wp2_with fail
    refine (over_c (hi x) (lo x) 10 _ (hi_nn _) (hi_lt _) (lo_nn _) (lo_lt _) (by omega) (by omega)).mono ?_
    rw [num_hi_lo (by omega : x < 340282366920938463463374607431768211456)]
    have eq1 : overQ x (10 : Int).toNat = x / 10 := rfl
    have er1 : overR x (10 : Int).toNat = x % 10 := rfl
    rw [eq1, er1]
    clear eq1 er1
    rintro e w1 ⟨rfl, hbw⟩
    have hb2 := hb1.after hbw
    have hown2 : w1.ownsRow w.heap.size 5 1 u3 k (bytesV l) := own_after hown hbw
    have hbel2 := bl_trans hbel hbw
    clear hown hb1 hbel hbw k0 k1 z0 z1
    have k0 := hb2.cell 0
    have k1 := hb2.cell 1
    have z0 := hb2.frozen 0
    have z1 := hb2.frozen 1
    simp at k0 k1
    have hlt := hb2.lt
    have hd : x % 10 < 10 := Nat.mod_lt _ (by omega)
    have hds : digR (40 - k) x = (48 + (x % 10 : Nat) : Int) :: (if x / 10 = 0 then [] else digR (40 - (k + 1)) (x / 10)) := by
      rw [show 40 - k = (40 - (k + 1)) + 1 from by omega]; rfl
    have hx2 : x / 10 < 10 ^ (39 - (k + 1)) := by
      rw [show 39 - k = (39 - (k + 1)) + 1 from by omega, Nat.pow_succ] at hx
      omega
    have hk38 : x / 10 ≠ 0 → k + 1 ≤ 38 := by
      intro hne
      rcases Nat.lt_or_ge k 38 with h | h
      · omega
      · rw [show 39 - (k + 1) = 0 from by omega] at hx2; omega
    rw [hds] at hdig
    have hq : x / 10 ≤ A := Nat.le_trans (Nat.div_le_self _ _) hxA
    have HD := Lib.hid hdig
    have HL := Lib.hid hl
    clear hds hdig hl hx
    generalize hd1 : x % 10 = d at *
    generalize hq1 : x / 10 = q at *
    clear hd1 hq1
    go_wp2_with (at_builtin; refine wpList_append_own _ rfl _ _ 72 rfl w.heap.size 5 i0 (.int .u8 0) 1 1 Tryd.underlying72 hi0 hz0 hz1 hz2 rfl (by decide) _ _ _ rfl ((hown2.alloc (.cells #[.int .u64 (hi q), .int .u64 (lo q)] 56)).alloc _) ⟨w1.heap.size + 1, 0, none⟩ 1 1 [.int .u8 (48 + (d : Int))] rfl rfl ?c1 ?c2 ?c3 ?c4 ?c5 ?_)
    case c1 => exact cell_one' _ _ _ _ (by simp)
    case c2 => exact one_cell_k _ _
    case c3 => simp only [maxLen]; omega
    case c4 => omega
    case c5 => rw [size_alloc', size_alloc']; omega
    intro v' w2 hown3 hgrow _
    have hbq : Blk (w1.alloc (.cells #[.int .u64 (hi q), .int .u64 (lo q)] 56)) w1.heap.size 56 #[.int .u64 (hi q), .int .u64 (lo q)] := Blk.new _ _ _
    have hbq2 := (hbq.alloc (.cells #[.int .u8 (48 + (d : Int))] 5)).grown hgrow ((hbq.alloc (.cells #[.int .u8 (48 + (d : Int))] 5)).ne_own ((hown2.alloc (.cells #[.int .u64 (hi q), .int .u64 (lo q)] 56)).alloc _) (by decide))
    have hb3 := ((hb2.alloc (.cells #[.int .u64 (hi q), .int .u64 (lo q)] 56)).alloc (.cells #[.int .u8 (48 + (d : Int))] 5)).grown hgrow (((hb2.alloc (.cells #[.int .u64 (hi q), .int .u64 (lo q)] 56)).alloc (.cells #[.int .u8 (48 + (d : Int))] 5)).ne_own ((hown2.alloc (.cells #[.int .u64 (hi q), .int .u64 (lo q)] 56)).alloc _) (by decide))
    have hbel3 := below_own (bl_alloc hbel2 (.cells #[.int .u64 (hi q), .int .u64 (lo q)] 56)) (hown2.alloc _) (Nat.le_refl _) hgrow
    have hne : w.heap.size ≠ w1.heap.size := by omega
    clear hown2 hgrow hbel2 hb2 hbq k0 k1 z0 z1
    have k0 := hb3.cell 0
    have k1 := hb3.cell 1
    have z0 := hb3.frozen 0
    have z1 := hb3.frozen 1
    have y0 := hbq2.cell 0
    have y1 := hbq2.cell 1
    simp at k0 k1 y0 y1
    obtain ⟨g, cap, rfl, hg1, hg2, hg3, hg4, hg5⟩ := own_form hown3 (Nat.succ_pos k)
    have hgx := hb3.ne_own hown3 (by decide)
    have hgq : w.heap.size ≠ g := by simpa [Value.ownBlock] using hgx
    by_cases hq0 : q = 0
    · subst hq0
      have e0 : hi 0 = 0 := rfl
      have e1 : lo 0 = 0 := rfl
      have dig := HD.out
      rw [if_pos rfl] at dig
      have DIG := Lib.hid dig
      clear dig HD
      go_wp2_with fail
      clear e0 e1 k0 k1 y0 y1 z0 z1
      have hbel4 : Below w.heap.size w ((w2.setCell ⟨w.heap.size, 0, none⟩ (.int .u64 0)).setCell ⟨w.heap.size, 1, none⟩ (.int .u64 0)) := bl_set (bl_set hbel3 (by simp) _) (by simp) _
      have hce : ∀ j, j < k + 1 → ((w2.setCell ⟨w.heap.size, 0, none⟩ (.int .u64 0)).setCell ⟨w.heap.size, 1, none⟩ (.int .u64 0)).cell? ⟨g, j, none⟩ = some (.int .u8 ((l ++ [48 + (d : Int)]).getD j 0)) := by
        intro j hj
        rw [World.cell?_setCell_other _ _ _ _ (by simp <;> omega), World.cell?_setCell_other _ _ _ _ (by simp <;> omega)]
        apply hg4
        have hln : j < (l ++ [48 + (d : Int)]).length := by rw [List.length_append, HL.out]; exact hj
        have hgb := get_bytes hln
        rw [show bytesV (l ++ [48 + (d : Int)]) = bytesV l ++ [.int .u8 (48 + (d : Int))] from by simp [bytesV]] at hgb
        exact hgb
      have hfr : ∀ j, ((w2.setCell ⟨w.heap.size, 0, none⟩ (.int .u64 0)).setCell ⟨w.heap.size, 1, none⟩ (.int .u64 0)).frozen? ⟨g, j, none⟩ = false := by
        intro j
        simpa using hg5 j
      generalize ((w2.setCell ⟨w.heap.size, 0, none⟩ (.int .u64 0)).setCell ⟨w.heap.size, 1, none⟩ (.int .u64 0)) = w3 at *
      clear hown3 hb3 hbq2 hbel3 hg4 hg5
      obtain ⟨D, hD⟩ : ∃ D : Nat → Int, ∀ j, (l ++ [48 + (d : Int)]).getD j 0 = D j := ⟨_, fun _ => rfl⟩
      simp only [hD] at hce
      have HDD := Lib.hid hD
      clear hD
      go_loopw [25] (fun i ws => ∃ m : Nat, m ≤ (k + 1) / 2 ∧ i = .int .i64 m ∧ Below w.heap.size w ws ∧ RevAt ws g k m D) (fun i _ => (k + 1) / 2 - (intOf i).toNat)
      case atStart => exact ⟨0, by omega, rfl, hbel4, ⟨fun j hj => by rw [if_neg (by omega)]; exact hce j hj, hfr⟩⟩
      case round =>
        obtain ⟨m, hm, rfl, hbel, hrev⟩ := hrel
        by_cases hlm : m < (k + 1) / 2
        · have r1 := hrev.1 m (by omega)
          rw [if_neg (by omega)] at r1
          have r2 := hrev.1 (k - m) (by omega)
          rw [if_neg (by omega)] at r2
          have z1 := hrev.2 m
          have z2 := hrev.2 (k - m)
          have hmk : m ≠ k - m := by omega
          have hmk2 : k - m ≠ m := by omega
          have dm : decide ((m : Int) < ((k : Int) + 1) / 2) = true := by simp; omega
          have i1 : (m : Int) ≤ k := by omega
          go_wp2_with fail
          go_region
          go_wp2_with fail
          go_roundw
          case rel => exact ⟨m + 1, by omega, by go_num, (by repeat (first | (with_reducible exact Below.refl _ _) | (with_reducible assumption) | (with_reducible refine bl_alloc ?_ _) | (with_reducible refine bl_drew ?_) | (with_reducible refine bl_drewN ?_ _) | (with_reducible refine bl_set ?_ (by first | (simp; done) | (simp; omega)) _) | (with_reducible refine bl_trans ?_ ‹_›))), rev_step hrev hlm⟩
          case measure => simp [intOf]; omega
        · obtain rfl : m = (k + 1) / 2 := by omega
          have hre := rev_end hrev
          have hlen : ((l ++ [48 + (d : Int)]).reverse).length = k + 1 := by rw [List.length_reverse, List.length_append, HL.out]; rfl
          have hconv := run_convert_bytes_arg (P := Tryd.prog) wr 72 5 Tryd.underlying72 Tryd.underlying5 g 0 (k + 1) cap ((l ++ [48 + (d : Int)]).reverse) hlen (by
            intro j hj
            rw [Nat.zero_add, hre j hj, ← HDD.out, get_rev (by rw [hlen]; exact hj)]
            congr 3
            rw [List.length_append, HL.out]
            simp) 9 Tryd.underlying9
          have hfin : decI A = (48 + (d : Int)) :: l.reverse := by unfold decI; rw [DIG.out]; simp
          have HFIN := Lib.hid hfin
          clear hfin hlen hre
          have dm : decide ((((k + 1) / 2 : Nat) : Int) < ((k : Int) + 1) / 2) = false := decide_eq_false (by omega)
          go_wp2_with fail
          go_ret
          exact ⟨by rw [HFIN.out]; rfl, hbel⟩
    · have hk1 := hk38 hq0
      have e0 : ¬ (hi q = 0 ∧ lo q = 0) := by
        rintro ⟨a, b⟩
        exact hq0 ((hi_lo_eq (by omega) (by omega)).1 ⟨a.trans rfl, b.trans rfl⟩)
      have dig := HD.out
      rw [if_neg hq0] at dig
      have DIG := Lib.hid dig
      have HQ := Lib.hid hq0
      have HN := Lib.hid hne
      clear dig HD hk38 hq0
      have hrel : ∀ ws, ws = ((w2.setCell ⟨w.heap.size, 0, none⟩ (.int .u64 (hi q))).setCell ⟨w.heap.size, 1, none⟩ (.int .u64 (lo q))) → ∃ (k' x' : Nat) (l' : List Int), k' ≤ 38 ∧ x' ≤ A ∧ x' < 10 ^ (39 - k') ∧ l'.length = k' ∧ digR 40 A = l' ++ digR (40 - k') x' ∧ Blk ws w.heap.size 56 #[.int .u64 (hi x'), .int .u64 (lo x')] ∧
          ws.ownsRow w.heap.size 5 1 (.slice (some ⟨g, 0, none⟩) (k + 1) cap) k' (bytesV l') ∧ Below w.heap.size w ws := by
        rintro ws rfl
        refine ⟨k + 1, q, l ++ [48 + (d : Int)], hk1, hq, hx2, by rw [List.length_append, HL.out]; rfl, by rw [DIG.out]; simp, (hb3.put 0 _).put 1 _, ?_, bl_set (bl_set hbel3 (by simp) _) (by simp) _⟩
        rw [show bytesV (l ++ [48 + (d : Int)]) = bytesV l ++ [.int .u8 (48 + (d : Int))] from by simp [bytesV]]
        exact own_set (own_set hown3 (by simpa [Value.ownBlock] using hgq) _) (by simpa [Value.ownBlock] using hgq) _
      by_cases h0 : hi q = 0
      · have h1 : ¬ lo q = 0 := fun h => e0 ⟨h0, h⟩
        rw [h0] at hrel
        have HREL := Lib.hid hrel
        clear e0 hrel
        go_wp2_with fail
        go_roundw
        case rel => exact HREL.out _ rfl
        case measure =>
          show 40 - (k + 1) < 40 - lenV u3
          rw [HLU.out]; omega
      · have HREL := Lib.hid hrel
        clear e0 hrel
        go_wp2_with fail
        go_roundw
        case rel => exact HREL.out _ rfl
        case measure =>
          show 40 - (k + 1) < 40 - lenV u3
          rw [HLU.out]; omega
end Go.Proofs.YtnhaejbakgjelaaDoor
