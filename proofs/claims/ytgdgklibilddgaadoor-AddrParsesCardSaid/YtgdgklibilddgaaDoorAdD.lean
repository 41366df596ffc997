/- Addresses: the groups of a side. -/
import Derived.Test.YtgdgklibilddgaaDoorAdC
namespace Go.Proofs.YtgdgklibilddgaaDoor
open Go.RowKit

set_option maxRecDepth 100000 in
theorem puint16_c (s : ByteArray) (g : Nat) (h : hex16 (bts s) = some g) (w : World) :
    Calls Tryd.prog 62 #[.string s, .int .i64 16, .int .i64 16] w fun e w' => e = .returned (.tuple #[.int .u64 g, .nilIface]) ∧ Below w.heap.size w w' := by
  have HI := Lib.hid (fun w => ipu_c s g h w)
  clear h
  go_enter Tryd.func62, Tryd.ntmps62
  go_wp2_with fail
  refine (HI.out _).mono ?_
  rintro e w1 ⟨rfl, hb1⟩
  go_wp2_with fail
  go_ret2
  exact ⟨rfl, hb1⟩
theorem indexByte_mem (c : UInt8) : ∀ l : List UInt8, (0 ≤ Lib.indexByte l c) ↔ c ∈ l
  | [] => by simp [Lib.indexByte]
  | x :: l => by
    have ih := indexByte_mem c l
    have hg := Lib.indexByte_ge l c
    unfold Lib.indexByte
    by_cases e : x = c
    · subst e; simp
    · rw [if_neg (by simp [e])]
      by_cases m : Lib.indexByte l c = -1
      · rw [if_pos (by simp [m])]
        have : c ∉ l := fun h => by have := ih.2 h; omega
        simp [Ne.symm e, this]
      · rw [if_neg (by simp [m])]
        have : c ∈ l := ih.1 (by omega)
        simp [this]; omega
theorem has_c (s : ByteArray) (c : UInt8) (w : World) :
    Calls Tryd.prog 32 #[.string s, .string ⟨#[c]⟩] w fun e w' => e = .returned (.bool (decide (c ∈ bts s))) ∧ w = w' := by
  refine (Tryd.strings_Contains_one s c w).mono ?_
  rintro e w' ⟨rfl, rfl⟩
  refine ⟨?_, rfl⟩
  congr 2
  rw [Bool.eq_iff_iff, decide_eq_true_eq, decide_eq_true_eq]
  exact indexByte_mem c _
theorem hexM_some : ∀ {l : List UInt8} (n : Nat), (∀ c ∈ l, ∃ d, hexV c = some d) → ∃ g, hexM n l = some g
  | [], n, _ => ⟨n, rfl⟩
  | c :: r, n, h => by
    obtain ⟨d, hd⟩ := h c (by simp)
    rw [hexM, hd]
    exact hexM_some _ fun x hx => h x (by simp [hx])
/-- so many pieces have been read -/
def SideTo (last : Bool) (L : List (List UInt8)) (k : Nat) (G : List Nat) : Prop := sideP last L = (sideP last (L.drop k)).map (G ++ ·)
theorem sideTo_zero (last : Bool) (L : List (List UInt8)) : SideTo last L 0 [] := by
  unfold SideTo; rw [List.drop_zero]; cases sideP last L <;> simp
theorem drop_at8 {L : List (List UInt8)} {k : Nat} {p : List UInt8} (h : L[k]? = some p) : L.drop k = p :: L.drop (k + 1) := by
  obtain ⟨hi, rfl⟩ := List.getElem?_eq_some_iff.1 h
  exact List.drop_eq_getElem_cons hi
theorem sideTo_step {last : Bool} {L : List (List UInt8)} {k : Nat} {G : List Nat} {p : List UInt8} {g : Nat} (h : SideTo last L k G) (hp : L[k]? = some p) (hg : hex16 p = some g) : SideTo last L (k + 1) (G ++ [g]) := by
  unfold SideTo at *
  have h46 : (46 : UInt8) ∉ p := fun hm => by rw [hex16_dot hm] at hg; cases hg
  rw [h, drop_at8 hp, sideP, if_neg (fun q => h46 q.2.2), hg]
  cases sideP last (L.drop (k + 1)) <;> simp
def NotDot (last : Bool) (L : List (List UInt8)) (k : Nat) (p : List UInt8) : Prop := ¬ (last = true ∧ k + 1 = L.length ∧ (46 : UInt8) ∈ p)
theorem sideTo_bad {last : Bool} {L : List (List UInt8)} {k : Nat} {G : List Nat} {p : List UInt8} (h : SideTo last L k G) (hp : L[k]? = some p) (hg : hex16 p = none) (hn : NotDot last L k p) : sideP last L = none := by
  unfold SideTo at h
  have hk : k < L.length := (List.getElem?_eq_some_iff.1 hp).1
  rw [h, drop_at8 hp, sideP, if_neg, hg]; rfl
  rintro ⟨q1, q2, q3⟩
  exact hn ⟨q1, by have := List.drop_eq_nil_iff.1 q2; omega, q3⟩
theorem sideTo_dot {last : Bool} {L : List (List UInt8)} {k : Nat} {G : List Nat} {p : List UInt8} (h : SideTo last L k G) (hp : L[k]? = some p) (h1 : last = true) (h2 : k + 1 = L.length) (h3 : (46 : UInt8) ∈ p) : sideP last L = (four (pieces 46 p)).map (fun t => G ++ grp t) := by
  unfold SideTo at h
  rw [h, drop_at8 hp, sideP, if_pos ⟨h1, List.drop_of_length_le (by omega), h3⟩]
  cases four (pieces 46 p) <;> simp
theorem sideTo_end {last : Bool} {L : List (List UInt8)} {k : Nat} {G : List Nat} (h : SideTo last L k G) (hk : L.length ≤ k) : sideP last L = some G := by
  unfold SideTo at h
  rw [h, List.drop_of_length_le hk]; simp [sideP]
theorem info_u16 : (Tryd.prog.info? 48).map (fun i => (i.zero, i.size, i.bytes)) = some (some (.int .u16 0), 1, 2) := by kernel_rfl
def u16V (l : List Nat) : List Value := l.map fun n => Value.int .u16 (n : Nat)
/-- what the reading of a side answers -/
def SideIs (last : Bool) (s : List UInt8) (w : World) (e : Ending) (w' : World) : Prop :=
  (∃ v ok, e = .returned (.tuple #[v, .bool ok]) ∧
    ((side last s = none ∧ ok = false ∧ ∃ a n c, v = .slice a n c ∧ n ≤ 1000010) ∨ ∃ G, side last s = some G ∧ ok = true ∧ w'.ownsRow w.heap.size 48 1 v G.length (u16V G) ∧ G.length ≤ 1000010 ∧ ∀ g ∈ G, g < 65536)) ∧ Below w.heap.size w w'
theorem cell_list (w : World) (l : List Value) (t : TypeId) : ∀ j x, l[j]? = some x → (w.alloc (.cells l.toArray t)).cell? ((⟨w.heap.size, 0, none⟩ : Addr).add j) = some x := by
  intro j x h
  have e : (⟨w.heap.size, 0, none⟩ : Addr).add j = ⟨w.heap.size, j, none⟩ := by unfold Addr.add; split <;> simp_all
  rw [e, World.cell?_alloc_new]
  simpa using h
theorem own_slice {w : World} {base n : Nat} {e : TypeId} {v : Value} {xs : List Value} (h : w.ownsRow base e 1 v n xs) : ∃ a c, v = .slice a n c := by
  rcases h.2 with ⟨rfl, h0⟩ | ⟨g, cap, cur, hv, _⟩
  · subst h0; exact ⟨_, _, rfl⟩
  · exact ⟨_, _, hv⟩
theorem own_lower {w : World} {base base' n : Nat} {e : TypeId} {v : Value} {xs : List Value} (h : w.ownsRow base e 1 v n xs) (hb : base' ≤ base) : w.ownsRow base' e 1 v n xs := by
  obtain ⟨h1, h2⟩ := h
  exact ⟨h1, h2.imp id fun ⟨g, cap, cur, e1, e2, e3⟩ => ⟨g, cap, cur, e1, Nat.le_trans hb e2, e3⟩⟩
set_option maxRecDepth 100000 in
set_option maxHeartbeats 12800000 in
theorem side_c (s : ByteArray) (last : Bool) (w : World) (hs : s.size ≤ 1000000) (hG : Glob w) :
    Calls Tryd.prog 36 #[.string s, .bool last] w (SideIs last (bts s) w) := by
  by_cases h0 : s.size = 0
  · have hb : bts s = [] := List.eq_nil_of_length_eq_zero (by simpa [bts] using h0)
    have he : s.toList.isEmpty = true := by rw [Lib.toList_data]; show (bts s).isEmpty = true; rw [hb]; rfl
    rw [hb]
    clear hb h0
    go_enter Tryd.func36, Tryd.ntmps36
    go_wp2_with fail
    go_ret2
    exact ⟨⟨_, _, rfl, .inr ⟨[], rfl, rfl, World.ownsRow_nil _ _ _ _, by simp, by simp⟩⟩, (by repeat (first | (with_reducible exact Below.refl _ _) | (with_reducible assumption) | (with_reducible refine bl_alloc ?_ _) | (with_reducible refine bl_drew ?_) | (with_reducible refine bl_drewN ?_ _) | (with_reducible refine bl_set ?_ (by first | (simp; done) | (simp; omega)) _) | (with_reducible refine bl_trans ?_ ‹_›)))⟩
  have hne : bts s ≠ [] := fun e => h0 (by have := congrArg List.length e; simpa [bts] using this)
  have he : s.toList.isEmpty = false := by
    rw [Lib.toList_data]
    cases hq : s.data.toList with
    | nil => exact absurd hq hne
    | cons a l => rfl
  have HS := Lib.hid (split_c 58 s w hs hG)
  have hbl : (piecesB 58 s).map bts = pieces 58 (bts s) := piecesB_eq 58 s
  have hps : ∀ p ∈ piecesB 58 s, p.size ≤ s.size := fun p hp => by
    have := pieces_size 58 s (bts p) (by rw [← hbl]; exact List.mem_map_of_mem hp)
    simpa [bts] using this
  have hside : side last (bts s) = sideP last (pieces 58 (bts s)) := by unfold side; rw [if_neg hne]
  have hpl : (piecesB 58 s).length ≤ 1000001 := by
    have h1 : (pieces 58 (bts s)).length = (bts s).count 58 + 1 := pieces_len 58 _
    have h2 : (bts s).count 58 ≤ (bts s).length := List.count_le_length
    have h3 : (bts s).length = s.size := by simp [bts]
    rw [← hbl, List.length_map] at h1
    omega
  go_enter Tryd.func36, Tryd.ntmps36
  go_wp2_with fail
  refine HS.out.mono ?_
  rintro e w1 ⟨rfl, rfl⟩
  obtain ⟨i0, hi0, hz0, hz1, hz2⟩ := info_parts info_u16
  have hc := fun (j : Nat) (x : ByteArray) (hx : (piecesB 58 s)[j]? = some x) => (show (w.alloc (.cells ((piecesB 58 s).map Value.string).toArray 9)).cell? ⟨w.heap.size, j, none⟩ = some (.string x) by rw [World.cell?_alloc_new]; simp [hx])
  have hG1 : Glob (w.alloc (.cells ((piecesB 58 s).map Value.string).toArray 9)) := hG.after (by repeat (first | (with_reducible exact Below.refl _ _) | (with_reducible assumption) | (with_reducible refine bl_alloc ?_ _) | (with_reducible refine bl_drew ?_) | (with_reducible refine bl_drewN ?_ _) | (with_reducible refine bl_set ?_ (by first | (simp; done) | (simp; omega)) _) | (with_reducible refine bl_trans ?_ ‹_›)))
  have hbel1' : Below w.heap.size w (w.alloc (.cells ((piecesB 58 s).map Value.string).toArray 9)) := (by repeat (first | (with_reducible exact Below.refl _ _) | (with_reducible assumption) | (with_reducible refine bl_alloc ?_ _) | (with_reducible refine bl_drew ?_) | (with_reducible refine bl_drewN ?_ _) | (with_reducible refine bl_set ?_ (by first | (simp; done) | (simp; omega)) _) | (with_reducible refine bl_trans ?_ ‹_›)))
  have hz1' : w.heap.size < (w.alloc (.cells ((piecesB 58 s).map Value.string).toArray 9)).heap.size := by simp
  generalize piecesB 58 s = L at *
  generalize w.alloc (.cells (L.map Value.string).toArray 9) = w1 at *
  rw [← hbl] at hside
  have HBL := Lib.hid hbl
  have HC := Lib.hid hc
  have HPS := Lib.hid hps
  have HSD := Lib.hid hside
  clear hbl hc hps hside hG HS he hne h0
  go_wp2_with fail
  go_loopw [6, 21] (fun so i wr => ∃ (k : Nat) (G : List Nat), k ≤ L.length ∧ i = .int .i64 k ∧ G.length = k ∧ SideTo last (L.map bts) k G ∧ (∀ g ∈ G, g < 65536) ∧ wr.ownsRow w1.heap.size 48 1 so G.length (u16V G) ∧ Below w1.heap.size w1 wr) (fun _ i _ => L.length - (intOf i).toNat)
  case atStart => exact ⟨0, [], by omega, rfl, rfl, sideTo_zero _ _, by simp, World.ownsRow_nil _ _ _ _, Below.refl _ _⟩
  case round =>
    obtain ⟨k, G, hk, rfl, hGl, hst, hg16, hown, hbel⟩ := hrel
    have HST := Lib.hid hst
    have HG16 := Lib.hid hg16
    have HGL := Lib.hid hGl
    have hGr := hG1.after hbel
    have hGk : G.length ≤ 1000001 := by omega
    clear hst hg16 hGl
    by_cases hlt : k < L.length
    · have d1 : (k : Int) < L.length := by omega
      obtain ⟨p, hp⟩ : ∃ p, L[k]? = some p := ⟨_, List.getElem?_eq_getElem hlt⟩
      have hcell := (hbel.cell (p := ⟨w.heap.size, k, none⟩) hz1').trans (HC.out k p hp)
      have hpsz := HPS.out p (List.mem_of_getElem? hp)
      have hpm : (L.map bts)[k]? = some (bts p) := by simp [hp]
      have HPM := Lib.hid hpm
      have HBP : Hid ((bts p).length = p.size) := Lib.hid (by simp [bts])
      clear hp hpm
      by_cases hend : last = true ∧ k + 1 = L.length
      · obtain ⟨rfl, hk1⟩ := hend
        have e1 : ((k : Int) == (L.length : Int) - 1) = true := by simp; omega
        by_cases hdot : (46 : UInt8) ∈ bts p
        · have HH := Lib.hid (fun w => has_c p 46 w)
          rw [decide_eq_true hdot] at HH
          have HP := Lib.hid (fun w hG => parse4_c p w (by omega) hG)
          go_wp2_with fail
          refine (HH.out _).mono ?_
          rintro e w2 ⟨rfl, rfl⟩
          go_wp2_with fail
          refine (HP.out _ hGr).mono ?_
          have hdt := sideTo_dot HST.out HPM.out rfl (by rw [List.length_map]; exact hk1) hdot
          rw [← HSD.out] at hdt
          cases h4 : four (pieces 46 (bts p)) with
          | none =>
            have hfv : fourV (pieces 46 (bts p)) = .tuple #[.int .u32 0, .bool false] := by unfold fourV; rw [h4]
            rw [hfv]
            rw [h4] at hdt
            have HDT := Lib.hid hdt
            rintro e w3 ⟨rfl, hb3⟩
            have hown3 := own_after hown hb3
            have hbel3 := bl_trans hbel hb3
            have hz3 := hbel3.size
            clear hfv hdt h4 hown hbel hdot hb3
            go_wp2_with (at_builtin; refine wpList_append_own _ rfl _ _ 54 rfl w1.heap.size 48 i0 (.int .u16 0) 1 2 Tryd.underlying54 hi0 hz0 hz1 hz2 rfl (by decide) _ _ _ rfl (hown3.alloc _) ⟨w3.heap.size, 0, none⟩ 2 2 [.int .u16 0, .int .u16 0] rfl rfl ?z1_1 ?z1_2 ?z1_3 ?z1_4 ?z1_5 ?_)
            (try case z1_1 => exact cell_list _ _ _)
            (try case z1_2 => (first | exact one_cell_k _ _ | (intro u hu; simp at hu; (try rcases hu with rfl | rfl) <;> (try subst hu) <;> rfl)))
            case z1_3 => (first | (simp only [maxLen]; omega) | omega)
            case z1_4 => omega
            case z1_5 => (first | omega | (simp; omega))
            intro v' wa hown' hgrow _
            have hbel1 := below_own hbel3 hown3 (Nat.le_refl _) hgrow
            obtain ⟨ga, gc, rfl⟩ := own_slice hown'
            go_wp2_with fail
            go_ret2
            exact ⟨⟨_, _, rfl, .inl ⟨by rw [HDT.out]; rfl, rfl, _, _, _, rfl, by omega⟩⟩, bl_trans hbel1' hbel1⟩
          | some t =>
            obtain ⟨ht4, ht5⟩ := four_lt h4
            have hfv : fourV (pieces 46 (bts p)) = .tuple #[.int .u32 (valB t : Nat), .bool true] := by unfold fourV; rw [h4]
            rw [hfv]
            rw [h4] at hdt
            obtain ⟨a, b, c, d, rfl⟩ : ∃ a b c d, t = [a, b, c, d] := by
              match t, ht4 with
              | [a, b, c, d], _ => exact ⟨a, b, c, d, rfl⟩
            have ha := ht5 a (by simp)
            have hb := ht5 b (by simp)
            have hc' := ht5 c (by simp)
            have hd := ht5 d (by simp)
            have hval : valB [a, b, c, d] = 65536 * (256 * a + b) + (256 * c + d) := by simp only [valB, List.foldl_cons, List.foldl_nil]; omega
            rw [hval]
            have hdt' : side true (bts s) = some (G ++ [256 * a + b, 256 * c + d]) := by rw [hdt]; rfl
            have HDT := Lib.hid hdt'
            clear hdt'
            have c1 : IntKind.u16.wrap ((65536 * (256 * a + b) + (256 * c + d) : Nat) : Int) = ((256 * c + d : Nat) : Int) := by show ((65536 * (256 * a + b) + (256 * c + d) : Nat) : Int) % 65536 = _; omega
            have c2 : IntKind.u16.wrap (((65536 * (256 * a + b) + (256 * c + d) : Nat) : Int) / 65536) = ((256 * a + b : Nat) : Int) := by show (((65536 * (256 * a + b) + (256 * c + d) : Nat) : Int) / 65536) % 65536 = _; omega
            generalize 65536 * (256 * a + b) + (256 * c + d) = X at *
            have hlt1 : 256 * a + b < 65536 := by omega
            have hlt2 : 256 * c + d < 65536 := by omega
            generalize 256 * a + b = A at *
            generalize 256 * c + d = D at *
            rintro e w3 ⟨rfl, hb3⟩
            have hown3 := own_after hown hb3
            have hbel3 := bl_trans hbel hb3
            have hz3 := hbel3.size
            clear hfv hdt h4 hown hbel hdot hb3 hval ht4 ht5 ha hb hc' hd
            go_wp2_with (at_builtin; refine wpList_append_own _ rfl _ _ 54 rfl w1.heap.size 48 i0 (.int .u16 0) 1 2 Tryd.underlying54 hi0 hz0 hz1 hz2 rfl (by decide) _ _ _ rfl (hown3.alloc _) ⟨w3.heap.size, 0, none⟩ 2 2 [.int .u16 (A : Nat), .int .u16 (D : Nat)] rfl rfl ?z2_1 ?z2_2 ?z2_3 ?z2_4 ?z2_5 ?_)
            (try case z2_1 => exact cell_list _ _ _)
            (try case z2_2 => (first | exact one_cell_k _ _ | (intro u hu; simp at hu; (try rcases hu with rfl | rfl) <;> (try subst hu) <;> rfl)))
            case z2_3 => (first | (simp only [maxLen]; omega) | omega)
            case z2_4 => omega
            case z2_5 => (first | omega | (simp; omega))
            intro v' wa hown' hgrow _
            have hbel1 := below_own hbel3 hown3 (Nat.le_refl _) hgrow
            obtain ⟨ga, gc, rfl⟩ := own_slice hown'
            go_wp2_with fail
            go_ret2
            refine ⟨⟨_, _, rfl, .inr ⟨G ++ [A, D], HDT.out, rfl, own_lower (by rw [List.length_append, show u16V (G ++ [A, D]) = u16V G ++ [.int .u16 (A : Nat), .int .u16 (D : Nat)] by simp [u16V]]; exact hown') (Nat.le_of_lt hz1'), by simp; omega, ?_⟩⟩, bl_trans hbel1' hbel1⟩
            intro g hg
            simp at hg
            rcases hg with hg | rfl | rfl
            · exact HG16.out g hg
            · exact hlt1
            · exact hlt2
        · -- the piece by itself
          have HH := Lib.hid (fun w => has_c p 46 w)
          rw [decide_eq_false hdot] at HH
          have HND : Hid (NotDot true (L.map bts) k (bts p)) := Lib.hid (fun h => hdot h.2.2)
          clear hdot
          go_wp2_with fail
          refine (HH.out _).mono ?_
          rintro e w2 ⟨rfl, rfl⟩
          by_cases hlen : 1 ≤ p.size ∧ p.size ≤ 4
          · have l1 : decide ((p.size : Int) < 1) = false := decide_eq_false (by omega)
            have l2 : decide ((4 : Int) < p.size) = false := decide_eq_false (by omega)
            go_wp2_with fail
            go_loopw [62] (fun i wi => ∃ j : Nat, j ≤ p.size ∧ i = .int .i64 j ∧ (∀ x c, x < j → (bts p)[x]? = some c → ∃ d, hexV c = some d) ∧ Below wr.heap.size wr wi) (fun i _ => p.size - (intOf i).toNat)
            case atStart => exact ⟨0, by omega, rfl, fun x c hx => absurd hx (by omega), Below.refl _ _⟩
            case round =>
              obtain ⟨j, hj, rfl, hall, hbi⟩ := hrel
              have HALL := Lib.hid hall
              clear hall
              have hbelI := bl_trans hbel hbi
              by_cases hjl : j < p.size
              · have dj : (j : Int) < p.size := by omega
                have HD := Lib.hid (fun w => digit_c (p[j]) w)
                have hcj : (bts p)[j]? = some (p[j]) := by
                  have h' : j < p.data.toList.length := by simpa using hjl
                  show p.data.toList[j]? = _
                  rw [List.getElem?_eq_getElem h']; rfl
                have HCJ := Lib.hid hcj
                clear hcj
                generalize hcc : p[j] = c at *
                cases hv : hexV c with
                | none =>
                  have hbad : hex16 (bts p) = none := by
                    unfold hex16
                    split
                    · rfl
                    · exact hexM_bad hv 0 (List.mem_of_getElem? HCJ.out)
                  have hnone := sideTo_bad HST.out HPM.out hbad HND.out
                  rw [← HSD.out] at hnone
                  have HN := Lib.hid hnone
                  rw [hv] at HD
                  clear hbad hnone hv
                  go_wp2_with fail
                  refine (HD.out _).mono ?_
                  rintro e w5 ⟨rfl, hb5⟩
                  have hbel5 := bl_trans hbelI hb5
                  go_wp2_with fail
                  go_ret2
                  exact ⟨⟨_, _, rfl, .inl ⟨HN.out, rfl, _, _, _, rfl, by omega⟩⟩, bl_trans hbel1' hbel5⟩
                | some d =>
                  rw [hv] at HD
                  have HV := Lib.hid hv
                  clear hv
                  go_wp2_with fail
                  refine (HD.out _).mono ?_
                  rintro e w5 ⟨rfl, hb5⟩
                  have hb6 := bl_trans hbi hb5
                  go_wp2_with fail
                  go_roundw
                  case rel =>
                    refine ⟨j + 1, by omega, by go_num, fun x c' hx hc' => ?_, hb6⟩
                    rcases Nat.lt_or_ge x j with q | q
                    · exact HALL.out x c' q hc'
                    · have : x = j := by omega
                      subst this
                      have := HCJ.out
                      rw [hc'] at this
                      injection this with this
                      rw [this]; exact ⟨d, HV.out⟩
                  case measure => simp [intOf]; omega
              · obtain rfl : j = p.size := by omega
                have dj : ¬ (p.size : Int) < p.size := by omega
                obtain ⟨g, hg⟩ : ∃ g, hex16 (bts p) = some g := by
                  unfold hex16
                  have hnl : ¬ (bts p = [] ∨ 4 < (bts p).length) := by
                    have hbp := HBP.out
                    rintro (h | h)
                    · rw [h] at hbp; simp at hbp; omega
                    · omega
                  rw [if_neg hnl]
                  refine hexM_some 0 fun c hc => ?_
                  obtain ⟨x, hx, rfl⟩ := List.mem_iff_getElem.1 hc
                  exact HALL.out x _ (by rw [← HBP.out]; exact hx) (List.getElem?_eq_getElem hx)
                have HP16 := Lib.hid (fun w => puint16_c p g hg w)
                have hnext := sideTo_step HST.out HPM.out hg
                have HNX := Lib.hid hnext
                have hglt := hex16_lt hg
                have hcg : IntKind.u16.wrap (g : Int) = g := by show (g : Int) % 65536 = g; omega
                have hownI := own_after hown hbi
                clear hg hnext hown hbel hbi
                go_wp2_with fail
                refine (HP16.out _).mono ?_
                rintro e w5 ⟨rfl, hb5⟩
                have hown5 := own_after hownI hb5
                have hbel5 := bl_trans hbelI hb5
                have hz5 := hbel5.size
                clear hownI hbelI hb5
                go_wp2_with (at_builtin; refine wpList_append_own _ rfl _ _ 54 rfl w1.heap.size 48 i0 (.int .u16 0) 1 2 Tryd.underlying54 hi0 hz0 hz1 hz2 rfl (by decide) _ _ _ rfl (hown5.alloc _) ⟨w5.heap.size, 0, none⟩ 1 1 [.int .u16 (g : Nat)] rfl rfl ?z3_1 ?z3_2 ?z3_3 ?z3_4 ?z3_5 ?_)
                (try case z3_1 => exact cell_list _ _ _)
                (try case z3_2 => (first | exact one_cell_k _ _ | (intro u hu; simp at hu; (try rcases hu with rfl | rfl) <;> (try subst hu) <;> rfl)))
                case z3_3 => (first | (simp only [maxLen]; omega) | omega)
                case z3_4 => omega
                case z3_5 => (first | omega | (simp; omega))
                intro v' wa hown' hgrow _
                have hbel1 := below_own hbel5 hown5 (Nat.le_refl _) hgrow
                go_wp2_with fail
                go_roundw
                case rel =>
                  refine ⟨k + 1, G ++ [g], by omega, by go_num, by simp [HGL.out], HNX.out, ?_, ?_, hbel1⟩
                  · intro x hx
                    rcases List.mem_append.1 hx with hx | hx
                    · exact HG16.out x hx
                    · simp at hx; subst hx; exact hglt
                  · rw [List.length_append, show u16V (G ++ [g]) = u16V G ++ [.int .u16 (g : Nat)] by simp [u16V]]; exact hown'
                case measure => simp [intOf]; omega
          · have hbad : hex16 (bts p) = none := by
              unfold hex16
              rw [if_pos]
              have hbp := HBP.out
              by_cases q : p.size = 0
              · exact .inl (List.eq_nil_of_length_eq_zero (by omega))
              · exact .inr (by omega)
            have hnone := sideTo_bad HST.out HPM.out hbad HND.out
            rw [← HSD.out] at hnone
            have HN := Lib.hid hnone
            have hcs : decide ((p.size : Int) < 1) = true ∨ (decide ((p.size : Int) < 1) = false ∧ decide ((4 : Int) < p.size) = true) := by
              by_cases q : p.size < 1
              · exact .inl (decide_eq_true (by omega))
              · exact .inr ⟨decide_eq_false (by omega), decide_eq_true (by omega)⟩
            clear hbad hnone hlen
            rcases hcs with l1 | ⟨l1, l2⟩
            all_goals
              go_wp2_with fail
              go_ret2
              exact ⟨⟨_, _, rfl, .inl ⟨HN.out, rfl, _, _, _, rfl, by omega⟩⟩, bl_trans hbel1' hbel⟩
      · rcases (show last = false ∨ last = true by cases last <;> simp) with hlast | hlast
        · -- the piece by itself
          have HND : Hid (NotDot last (L.map bts) k (bts p)) := Lib.hid (fun h => hend ⟨h.1, by have := h.2.1; rwa [List.length_map] at this⟩)
          subst hlast
          by_cases hlen : 1 ≤ p.size ∧ p.size ≤ 4
          · have l1 : decide ((p.size : Int) < 1) = false := decide_eq_false (by omega)
            have l2 : decide ((4 : Int) < p.size) = false := decide_eq_false (by omega)
            go_wp2_with fail
            go_loopw [62] (fun i wi => ∃ j : Nat, j ≤ p.size ∧ i = .int .i64 j ∧ (∀ x c, x < j → (bts p)[x]? = some c → ∃ d, hexV c = some d) ∧ Below wr.heap.size wr wi) (fun i _ => p.size - (intOf i).toNat)
            case atStart => exact ⟨0, by omega, rfl, fun x c hx => absurd hx (by omega), Below.refl _ _⟩
            case round =>
              obtain ⟨j, hj, rfl, hall, hbi⟩ := hrel
              have HALL := Lib.hid hall
              clear hall
              have hbelI := bl_trans hbel hbi
              by_cases hjl : j < p.size
              · have dj : (j : Int) < p.size := by omega
                have HD := Lib.hid (fun w => digit_c (p[j]) w)
                have hcj : (bts p)[j]? = some (p[j]) := by
                  have h' : j < p.data.toList.length := by simpa using hjl
                  show p.data.toList[j]? = _
                  rw [List.getElem?_eq_getElem h']; rfl
                have HCJ := Lib.hid hcj
                clear hcj
                generalize hcc : p[j] = c at *
                cases hv : hexV c with
                | none =>
                  have hbad : hex16 (bts p) = none := by
                    unfold hex16
                    split
                    · rfl
                    · exact hexM_bad hv 0 (List.mem_of_getElem? HCJ.out)
                  have hnone := sideTo_bad HST.out HPM.out hbad HND.out
                  rw [← HSD.out] at hnone
                  have HN := Lib.hid hnone
                  rw [hv] at HD
                  clear hbad hnone hv
                  go_wp2_with fail
                  refine (HD.out _).mono ?_
                  rintro e w5 ⟨rfl, hb5⟩
                  have hbel5 := bl_trans hbelI hb5
                  go_wp2_with fail
                  go_ret2
                  exact ⟨⟨_, _, rfl, .inl ⟨HN.out, rfl, _, _, _, rfl, by omega⟩⟩, bl_trans hbel1' hbel5⟩
                | some d =>
                  rw [hv] at HD
                  have HV := Lib.hid hv
                  clear hv
                  go_wp2_with fail
                  refine (HD.out _).mono ?_
                  rintro e w5 ⟨rfl, hb5⟩
                  have hb6 := bl_trans hbi hb5
                  go_wp2_with fail
                  go_roundw
                  case rel =>
                    refine ⟨j + 1, by omega, by go_num, fun x c' hx hc' => ?_, hb6⟩
                    rcases Nat.lt_or_ge x j with q | q
                    · exact HALL.out x c' q hc'
                    · have : x = j := by omega
                      subst this
                      have := HCJ.out
                      rw [hc'] at this
                      injection this with this
                      rw [this]; exact ⟨d, HV.out⟩
                  case measure => simp [intOf]; omega
              · obtain rfl : j = p.size := by omega
                have dj : ¬ (p.size : Int) < p.size := by omega
                obtain ⟨g, hg⟩ : ∃ g, hex16 (bts p) = some g := by
                  unfold hex16
                  have hnl : ¬ (bts p = [] ∨ 4 < (bts p).length) := by
                    have hbp := HBP.out
                    rintro (h | h)
                    · rw [h] at hbp; simp at hbp; omega
                    · omega
                  rw [if_neg hnl]
                  refine hexM_some 0 fun c hc => ?_
                  obtain ⟨x, hx, rfl⟩ := List.mem_iff_getElem.1 hc
                  exact HALL.out x _ (by rw [← HBP.out]; exact hx) (List.getElem?_eq_getElem hx)
                have HP16 := Lib.hid (fun w => puint16_c p g hg w)
                have hnext := sideTo_step HST.out HPM.out hg
                have HNX := Lib.hid hnext
                have hglt := hex16_lt hg
                have hcg : IntKind.u16.wrap (g : Int) = g := by show (g : Int) % 65536 = g; omega
                have hownI := own_after hown hbi
                clear hg hnext hown hbel hbi
                go_wp2_with fail
                refine (HP16.out _).mono ?_
                rintro e w5 ⟨rfl, hb5⟩
                have hown5 := own_after hownI hb5
                have hbel5 := bl_trans hbelI hb5
                have hz5 := hbel5.size
                clear hownI hbelI hb5
                go_wp2_with (at_builtin; refine wpList_append_own _ rfl _ _ 54 rfl w1.heap.size 48 i0 (.int .u16 0) 1 2 Tryd.underlying54 hi0 hz0 hz1 hz2 rfl (by decide) _ _ _ rfl (hown5.alloc _) ⟨w5.heap.size, 0, none⟩ 1 1 [.int .u16 (g : Nat)] rfl rfl ?z4_1 ?z4_2 ?z4_3 ?z4_4 ?z4_5 ?_)
                (try case z4_1 => exact cell_list _ _ _)
                (try case z4_2 => (first | exact one_cell_k _ _ | (intro u hu; simp at hu; (try rcases hu with rfl | rfl) <;> (try subst hu) <;> rfl)))
                case z4_3 => (first | (simp only [maxLen]; omega) | omega)
                case z4_4 => omega
                case z4_5 => (first | omega | (simp; omega))
                intro v' wa hown' hgrow _
                have hbel1 := below_own hbel5 hown5 (Nat.le_refl _) hgrow
                go_wp2_with fail
                go_roundw
                case rel =>
                  refine ⟨k + 1, G ++ [g], by omega, by go_num, by simp [HGL.out], HNX.out, ?_, ?_, hbel1⟩
                  · intro x hx
                    rcases List.mem_append.1 hx with hx | hx
                    · exact HG16.out x hx
                    · simp at hx; subst hx; exact hglt
                  · rw [List.length_append, show u16V (G ++ [g]) = u16V G ++ [.int .u16 (g : Nat)] by simp [u16V]]; exact hown'
                case measure => simp [intOf]; omega
          · have hbad : hex16 (bts p) = none := by
              unfold hex16
              rw [if_pos]
              have hbp := HBP.out
              by_cases q : p.size = 0
              · exact .inl (List.eq_nil_of_length_eq_zero (by omega))
              · exact .inr (by omega)
            have hnone := sideTo_bad HST.out HPM.out hbad HND.out
            rw [← HSD.out] at hnone
            have HN := Lib.hid hnone
            have hcs : decide ((p.size : Int) < 1) = true ∨ (decide ((p.size : Int) < 1) = false ∧ decide ((4 : Int) < p.size) = true) := by
              by_cases q : p.size < 1
              · exact .inl (decide_eq_true (by omega))
              · exact .inr ⟨decide_eq_false (by omega), decide_eq_true (by omega)⟩
            clear hbad hnone hlen
            rcases hcs with l1 | ⟨l1, l2⟩
            all_goals
              go_wp2_with fail
              go_ret2
              exact ⟨⟨_, _, rfl, .inl ⟨HN.out, rfl, _, _, _, rfl, by omega⟩⟩, bl_trans hbel1' hbel⟩
        · -- the piece by itself
          have HND : Hid (NotDot last (L.map bts) k (bts p)) := Lib.hid (fun h => hend ⟨h.1, by have := h.2.1; rwa [List.length_map] at this⟩)
          have e1 : ((k : Int) == (L.length : Int) - 1) = false := by simp; have : ¬ k + 1 = L.length := fun q => hend ⟨hlast, q⟩; omega
          subst hlast
          by_cases hlen : 1 ≤ p.size ∧ p.size ≤ 4
          · have l1 : decide ((p.size : Int) < 1) = false := decide_eq_false (by omega)
            have l2 : decide ((4 : Int) < p.size) = false := decide_eq_false (by omega)
            go_wp2_with fail
            go_loopw [62] (fun i wi => ∃ j : Nat, j ≤ p.size ∧ i = .int .i64 j ∧ (∀ x c, x < j → (bts p)[x]? = some c → ∃ d, hexV c = some d) ∧ Below wr.heap.size wr wi) (fun i _ => p.size - (intOf i).toNat)
            case atStart => exact ⟨0, by omega, rfl, fun x c hx => absurd hx (by omega), Below.refl _ _⟩
            case round =>
              obtain ⟨j, hj, rfl, hall, hbi⟩ := hrel
              have HALL := Lib.hid hall
              clear hall
              have hbelI := bl_trans hbel hbi
              by_cases hjl : j < p.size
              · have dj : (j : Int) < p.size := by omega
                have HD := Lib.hid (fun w => digit_c (p[j]) w)
                have hcj : (bts p)[j]? = some (p[j]) := by
                  have h' : j < p.data.toList.length := by simpa using hjl
                  show p.data.toList[j]? = _
                  rw [List.getElem?_eq_getElem h']; rfl
                have HCJ := Lib.hid hcj
                clear hcj
                generalize hcc : p[j] = c at *
                cases hv : hexV c with
                | none =>
                  have hbad : hex16 (bts p) = none := by
                    unfold hex16
                    split
                    · rfl
                    · exact hexM_bad hv 0 (List.mem_of_getElem? HCJ.out)
                  have hnone := sideTo_bad HST.out HPM.out hbad HND.out
                  rw [← HSD.out] at hnone
                  have HN := Lib.hid hnone
                  rw [hv] at HD
                  clear hbad hnone hv
                  go_wp2_with fail
                  refine (HD.out _).mono ?_
                  rintro e w5 ⟨rfl, hb5⟩
                  have hbel5 := bl_trans hbelI hb5
                  go_wp2_with fail
                  go_ret2
                  exact ⟨⟨_, _, rfl, .inl ⟨HN.out, rfl, _, _, _, rfl, by omega⟩⟩, bl_trans hbel1' hbel5⟩
                | some d =>
                  rw [hv] at HD
                  have HV := Lib.hid hv
                  clear hv
                  go_wp2_with fail
                  refine (HD.out _).mono ?_
                  rintro e w5 ⟨rfl, hb5⟩
                  have hb6 := bl_trans hbi hb5
                  go_wp2_with fail
                  go_roundw
                  case rel =>
                    refine ⟨j + 1, by omega, by go_num, fun x c' hx hc' => ?_, hb6⟩
                    rcases Nat.lt_or_ge x j with q | q
                    · exact HALL.out x c' q hc'
                    · have : x = j := by omega
                      subst this
                      have := HCJ.out
                      rw [hc'] at this
                      injection this with this
                      rw [this]; exact ⟨d, HV.out⟩
                  case measure => simp [intOf]; omega
              · obtain rfl : j = p.size := by omega
                have dj : ¬ (p.size : Int) < p.size := by omega
                obtain ⟨g, hg⟩ : ∃ g, hex16 (bts p) = some g := by
                  unfold hex16
                  have hnl : ¬ (bts p = [] ∨ 4 < (bts p).length) := by
                    have hbp := HBP.out
                    rintro (h | h)
                    · rw [h] at hbp; simp at hbp; omega
                    · omega
                  rw [if_neg hnl]
                  refine hexM_some 0 fun c hc => ?_
                  obtain ⟨x, hx, rfl⟩ := List.mem_iff_getElem.1 hc
                  exact HALL.out x _ (by rw [← HBP.out]; exact hx) (List.getElem?_eq_getElem hx)
                have HP16 := Lib.hid (fun w => puint16_c p g hg w)
                have hnext := sideTo_step HST.out HPM.out hg
                have HNX := Lib.hid hnext
                have hglt := hex16_lt hg
                have hcg : IntKind.u16.wrap (g : Int) = g := by show (g : Int) % 65536 = g; omega
                have hownI := own_after hown hbi
                clear hg hnext hown hbel hbi
                go_wp2_with fail
                refine (HP16.out _).mono ?_
                rintro e w5 ⟨rfl, hb5⟩
                have hown5 := own_after hownI hb5
                have hbel5 := bl_trans hbelI hb5
                have hz5 := hbel5.size
                clear hownI hbelI hb5
                go_wp2_with (at_builtin; refine wpList_append_own _ rfl _ _ 54 rfl w1.heap.size 48 i0 (.int .u16 0) 1 2 Tryd.underlying54 hi0 hz0 hz1 hz2 rfl (by decide) _ _ _ rfl (hown5.alloc _) ⟨w5.heap.size, 0, none⟩ 1 1 [.int .u16 (g : Nat)] rfl rfl ?z5_1 ?z5_2 ?z5_3 ?z5_4 ?z5_5 ?_)
                (try case z5_1 => exact cell_list _ _ _)
                (try case z5_2 => (first | exact one_cell_k _ _ | (intro u hu; simp at hu; (try rcases hu with rfl | rfl) <;> (try subst hu) <;> rfl)))
                case z5_3 => (first | (simp only [maxLen]; omega) | omega)
                case z5_4 => omega
                case z5_5 => (first | omega | (simp; omega))
                intro v' wa hown' hgrow _
                have hbel1 := below_own hbel5 hown5 (Nat.le_refl _) hgrow
                go_wp2_with fail
                go_roundw
                case rel =>
                  refine ⟨k + 1, G ++ [g], by omega, by go_num, by simp [HGL.out], HNX.out, ?_, ?_, hbel1⟩
                  · intro x hx
                    rcases List.mem_append.1 hx with hx | hx
                    · exact HG16.out x hx
                    · simp at hx; subst hx; exact hglt
                  · rw [List.length_append, show u16V (G ++ [g]) = u16V G ++ [.int .u16 (g : Nat)] by simp [u16V]]; exact hown'
                case measure => simp [intOf]; omega
          · have hbad : hex16 (bts p) = none := by
              unfold hex16
              rw [if_pos]
              have hbp := HBP.out
              by_cases q : p.size = 0
              · exact .inl (List.eq_nil_of_length_eq_zero (by omega))
              · exact .inr (by omega)
            have hnone := sideTo_bad HST.out HPM.out hbad HND.out
            rw [← HSD.out] at hnone
            have HN := Lib.hid hnone
            have hcs : decide ((p.size : Int) < 1) = true ∨ (decide ((p.size : Int) < 1) = false ∧ decide ((4 : Int) < p.size) = true) := by
              by_cases q : p.size < 1
              · exact .inl (decide_eq_true (by omega))
              · exact .inr ⟨decide_eq_false (by omega), decide_eq_true (by omega)⟩
            clear hbad hnone hlen
            rcases hcs with l1 | ⟨l1, l2⟩
            all_goals
              go_wp2_with fail
              go_ret2
              exact ⟨⟨_, _, rfl, .inl ⟨HN.out, rfl, _, _, _, rfl, by omega⟩⟩, bl_trans hbel1' hbel⟩
    · obtain rfl : k = L.length := by omega
      have d1 : ¬ (L.length : Int) < L.length := by omega
      have hend := sideTo_end HST.out (by rw [List.length_map]; omega)
      rw [← HSD.out] at hend
      have HE := Lib.hid hend
      clear hend
      obtain ⟨ga, gc, rfl⟩ := own_slice hown
      go_wp2_with fail
      go_ret2
      exact ⟨⟨_, _, rfl, .inr ⟨G, HE.out, rfl, own_lower hown (Nat.le_of_lt hz1'), by omega, HG16.out⟩⟩, bl_trans hbel1' hbel⟩
end Go.Proofs.YtgdgklibilddgaaDoor
