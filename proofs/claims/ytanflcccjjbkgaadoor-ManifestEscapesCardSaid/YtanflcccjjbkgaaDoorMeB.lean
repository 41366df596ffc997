/- The walks of Escape and Unescape. -/
import Derived.Test.YtanflcccjjbkgaaDoorMeA
import Derived.Test.YtanflcccjjbkgaaDoorShelfW
namespace Go.Proofs.YtanflcccjjbkgaaDoor
open Go.RowKit

theorem escL_len : ∀ l, (escL l).length ≤ 2 * l.length
  | [] => by simp [escL]
  | c :: l => by
    have := escL_len l
    rw [escL_cons, List.length_append, List.length_cons]
    have h1 : (esc1 c).length ≤ 2 := by unfold esc1; split <;> simp
    omega
theorem eI_bd (c : Int) : 0 ≤ eI c ∧ eI c < 256 := by unfold eI; repeat' split <;> omega
theorem numsS_bd {s : ByteArray} : ∀ n ∈ numsS s, 0 ≤ n ∧ n < 256 := by
  intro n h
  simp only [numsS, List.mem_map] at h
  obtain ⟨b, _, rfl⟩ := h
  have := b.toNat_lt
  omega
theorem escL_bd : ∀ {l : List Int}, (∀ n ∈ l, 0 ≤ n ∧ n < 256) → ∀ n ∈ escL l, 0 ≤ n ∧ n < 256
  | [], _, n, h => by simp [escL] at h
  | c :: l, hl, n, h => by
    rw [escL_cons, List.mem_append] at h
    rcases h with h | h
    · have hc := hl c (by simp)
      have he := eI_bd c
      unfold esc1 at h
      split at h
      · simp at h; subst h; exact hc
      · simp at h; rcases h with rfl | rfl
        · decide
        · exact he
    · exact escL_bd (fun n hn => hl n (by simp [hn])) n h
/-- numbers of bytes as cells -/
theorem bytesV_cells {l : List Int} (h : ∀ n ∈ l, 0 ≤ n ∧ n < 256) : bytesV l = Lib.byteCells (strOfNums l).data.toList := by
  rw [strOfNums_data]
  simp only [bytesV, Lib.byteCells, List.map_map]
  apply List.map_congr_left
  intro n hn
  obtain ⟨h0, h1⟩ := h n hn
  simp only [Function.comp_def, UInt8.toNat_ofNat']
  congr 1
  omega
theorem strOf_back (l : List Int) : (⟨(strOfNums l).data.toList.toArray⟩ : ByteArray) = strOfNums l := rfl
theorem escL_at {s : ByteArray} {k : Nat} (h : k < s.size) : escL ((numsS s).take (k + 1)) = escL ((numsS s).take k) ++ esc1 ((s[k]).toNat : Int) := esc_step (numsS_get h)
theorem escL_take (s : ByteArray) (k : Nat) : (escL ((numsS s).take k)).length ≤ 2 * k := by
  have := escL_len ((numsS s).take k)
  simp at this; omega

theorem builderAt_after {T e : TypeId} {B b : Nat} {p : Value} {bs : List Value} {w w' : World} (h : Lib.BuilderAt T e B b p bs w) (hb : Below w.heap.size w w') : Lib.BuilderAt T e B b p bs w' := by
  have hlt := h.lt
  obtain ⟨h1, v, h2, h3, h4⟩ := h
  exact ⟨h1, v, (hb.block b hlt).trans h2, own_after h3 hb, h4⟩
theorem builder_after {T e : TypeId} {B b : Nat} {bs : List Value} {w w' : World} (h : Lib.IsBuilder T e B b bs w) (hb : Below w.heap.size w w') : Lib.IsBuilder T e B b bs w' :=
  h.imp (fun h => builderAt_after h hb) (fun h => builderAt_after h hb)
theorem int_u8 {c : Int} (h0 : 0 ≤ c) (h1 : c < 256) : IntKind.u8.wrap c = c := by show c % 256 = c; omega

theorem cell_list (w : World) (l : List Value) (t : TypeId) : ∀ j x, l[j]? = some x → (w.alloc (.cells l.toArray t)).cell? ((⟨w.heap.size, 0, none⟩ : Addr).add j) = some x := by
  intro j x h
  have e : (⟨w.heap.size, 0, none⟩ : Addr).add j = ⟨w.heap.size, j, none⟩ := by unfold Addr.add; split <;> simp_all
  rw [e, World.cell?_alloc_new]
  simpa using h
set_option maxRecDepth 100000 in
/-- a row of bytes of the call's own as a string -/
theorem conv_own {w : World} {base : Nat} {v : Value} {l : List Int} (h : w.ownsRow base 5 1 v l.length (bytesV l)) :
    (convert 48 9 v).run Tryd.prog w = Result.ok (Value.string (strOfNums l)) w := by
  rcases Nat.eq_zero_or_pos l.length with h0 | h0
  · have : l = [] := List.eq_nil_of_length_eq_zero h0
    subst this
    rcases h.2 with ⟨rfl, _⟩ | ⟨g, cap, cur, rfl, _⟩
    · exact run_convert_bytes_nil w _ _ Tryd.underlying48 Tryd.underlying5 0 0 _ Tryd.underlying9
    · exact run_convert_bytes_arg w _ _ Tryd.underlying48 Tryd.underlying5 g 0 0 cap [] rfl (fun i hi => absurd hi (by omega)) _ Tryd.underlying9
  · obtain ⟨g, cap, rfl, _, _, _, hc, _⟩ := own_form h h0
    exact run_convert_bytes_arg w _ _ Tryd.underlying48 Tryd.underlying5 g 0 l.length cap l rfl (fun i hi => by rw [Nat.zero_add]; exact hc i _ (get_bytes hi)) _ Tryd.underlying9
set_option maxRecDepth 100000 in
theorem escape_c (s : ByteArray) (w : World) (hs : s.size ≤ 1000000) :
    Calls Tryd.prog 7 #[.string s] w fun e w' => e = .returned (.string (strOfNums (escL (numsS s)))) ∧ Below w.heap.size w w' := by
  have hw0 := Lib.fresh_isBuilder 50 5 w
  go_enter Tryd.func7, Tryd.ntmps7
  go_wp2_with fail
  go_loopw [8] (fun i wr => ∃ k : Nat, k ≤ s.size ∧ i = .int .i64 k ∧ Lib.IsBuilder 50 5 w.heap.size w.heap.size (bytesV (escL ((numsS s).take k))) wr ∧ Below w.heap.size w wr) (fun i _ => s.size - (intOf i).toNat)
  case atStart => exact ⟨0, by omega, rfl, hw0, (by repeat (first | (with_reducible exact Below.refl _ _) | (with_reducible assumption) | (with_reducible refine bl_alloc ?_ _) | (with_reducible refine bl_drew ?_) | (with_reducible refine bl_drewN ?_ _) | (with_reducible refine bl_set ?_ (by first | (simp; done) | (simp; omega)) _) | (with_reducible refine bl_trans ?_ ‹_›)))⟩
  case round =>
    obtain ⟨k, hk, rfl, hib, hbel⟩ := hrel
    clear hw0
    by_cases hlt : k < s.size
    · have d1 : (k : Int) < s.size := by omega
      have hst := escL_at hlt
      have hlen := escL_take s k
      have HST := Lib.hid hst
      have hz := hbel.size
      clear hst
      generalize hc : ((s[k]).toNat : Int) = c at *
      by_cases he : eI c = 0
      · have hx : (eI c != 0) = false := by simpa using he
        have h1 : esc1 c = [c] := if_pos he
        have H1 := Lib.hid h1
        clear he h1
        go_wp2_with fail
        refine (escaped_c _ _).mono ?_
        rintro e w1 ⟨rfl, hb1⟩
        have hib1 := builder_after hib hb1
        have hbel1 := bl_trans hbel hb1
        have hz1 := hbel1.size
        clear hib hbel hb1
        go_wp2_with fail
        refine (Tryd.Builder_WriteByte w.heap.size w.heap.size _ c _ hib1 (by simp [bytesV]; omega) hz1).mono ?_
        rintro e w2 ⟨rfl, hib2, hb2⟩
        have hbel2 := hbel1.trans hb2
        go_wp2_with fail
        go_roundw
        case rel => exact ⟨k + 1, by omega, by go_num, by rw [HST.out, H1.out, bytesV_snoc]; exact .inr hib2, hbel2⟩
        case measure => simp [intOf]; omega
      · have hx : (eI c != 0) = true := by simpa using he
        have h1 : esc1 c = [92] ++ [eI c] := if_neg he
        have H1 := Lib.hid h1
        clear he h1
        go_wp2_with fail
        refine (escaped_c _ _).mono ?_
        rintro e w1 ⟨rfl, hb1⟩
        have hib1 := builder_after hib hb1
        have hbel1 := bl_trans hbel hb1
        have hz1 := hbel1.size
        clear hib hbel hb1
        generalize eI c = x at *
        go_wp2_with fail
        refine (Tryd.Builder_WriteByte w.heap.size w.heap.size _ 92 _ hib1 (by simp [bytesV]; omega) hz1).mono ?_
        rintro e w2 ⟨rfl, hib2, hb2⟩
        have hbel2 := hbel1.trans hb2
        have hz2 := hbel2.size
        go_wp2_with fail
        refine (Tryd.Builder_WriteByte w.heap.size w.heap.size _ x _ (.inr hib2) (by simp [bytesV]; omega) hz2).mono ?_
        rintro e w3 ⟨rfl, hib3, hb3⟩
        have hbel3 := hbel2.trans hb3
        go_wp2_with fail
        go_roundw
        case rel => exact ⟨k + 1, by omega, by go_num, by rw [HST.out, H1.out, ← List.append_assoc, bytesV_snoc, bytesV_snoc]; exact .inr hib3, hbel3⟩
        case measure => simp [intOf]; omega
    · obtain rfl : k = s.size := by omega
      have d1 : ¬ (s.size : Int) < s.size := by omega
      have hz := hbel.size
      rw [show (numsS s).take s.size = numsS s by rw [← numsS_len, List.take_length], bytesV_cells (escL_bd numsS_bd)] at hib
      go_wp2_with fail
      refine (Tryd.Builder_String_any w.heap.size w.heap.size _ _ hib hz).mono ?_
      rintro e w2 ⟨rfl, hb2⟩
      have hbel2 := hbel.trans hb2
      go_wp2_with fail
      go_ret
      exact ⟨rfl, hbel2⟩

set_option maxRecDepth 100000 in
theorem refescape_c (s : ByteArray) (w : World) (hs : s.size ≤ 1000000) :
    Calls Tryd.prog 9 #[.string s] w fun e w' => e = .returned (.string (strOfNums (escL (numsS s)))) ∧ Below w.heap.size w w' := by
  obtain ⟨i0, hi0, hz0, hz1, hz2⟩ := info_parts info_u8
  have hown0 := own_laid w [] (by simp [maxLen]) w.heap.size (Nat.le_refl _)
  go_enter Tryd.func9, Tryd.ntmps9
  go_wp2_with fail
  go_loopw [3, 4] (fun b i wr => ∃ k : Nat, k ≤ s.size ∧ i = .int .i64 k ∧ wr.ownsRow w.heap.size 5 1 b (escL ((numsS s).take k)).length (bytesV (escL ((numsS s).take k))) ∧ Below w.heap.size w wr) (fun _ i _ => s.size - (intOf i).toNat)
  case atStart => exact ⟨0, by omega, rfl, hown0, (by repeat (first | (with_reducible exact Below.refl _ _) | (with_reducible assumption) | (with_reducible refine bl_alloc ?_ _) | (with_reducible refine bl_drew ?_) | (with_reducible refine bl_drewN ?_ _) | (with_reducible refine bl_set ?_ (by first | (simp; done) | (simp; omega)) _) | (with_reducible refine bl_trans ?_ ‹_›)))⟩
  case round =>
    obtain ⟨k, hk, rfl, hown, hbel⟩ := hrel
    clear hown0
    by_cases hlt : k < s.size
    · have d1 : (k : Int) < s.size := by omega
      have hst := escL_at hlt
      have hlen := escL_take s k
      have HST := Lib.hid hst
      have hz := hbel.size
      clear hst
      generalize hc : ((s[k]).toNat : Int) = c at *
      generalize escL ((numsS s).take k) = L at *
      have hs6 : (c = 92 ∧ esc1 c = [92, 92]) ∨ (c = 32 ∧ esc1 c = [92, 115]) ∨ (c = 10 ∧ esc1 c = [92, 110]) ∨ (c = 44 ∧ esc1 c = [92, 99]) ∨ (c = 61 ∧ esc1 c = [92, 101]) ∨ ((c == 92) = false ∧ (c == 32) = false ∧ (c == 10) = false ∧ (c == 44) = false ∧ (c == 61) = false ∧ esc1 c = [c]) := by
        by_cases h1 : c = 92
        · subst h1; exact .inl ⟨rfl, rfl⟩
        by_cases h2 : c = 32
        · subst h2; exact .inr (.inl ⟨rfl, rfl⟩)
        by_cases h3 : c = 10
        · subst h3; exact .inr (.inr (.inl ⟨rfl, rfl⟩))
        by_cases h4 : c = 44
        · subst h4; exact .inr (.inr (.inr (.inl ⟨rfl, rfl⟩)))
        by_cases h5 : c = 61
        · subst h5; exact .inr (.inr (.inr (.inr (.inl ⟨rfl, rfl⟩))))
        · exact .inr (.inr (.inr (.inr (.inr ⟨beq_eq_false_iff_ne.2 h1, beq_eq_false_iff_ne.2 h2, beq_eq_false_iff_ne.2 h3, beq_eq_false_iff_ne.2 h4, beq_eq_false_iff_ne.2 h5, by unfold esc1 eI; simp [h1, h2, h3, h4, h5]⟩))))
      have hbs : ∀ x y, bytesV (L ++ [x, y]) = bytesV L ++ [.int .u8 x, .int .u8 y] := fun x y => by simp [bytesV]
      have HBS := Lib.hid hbs
      have hll : ∀ x y, (L ++ [x, y]).length = L.length + 2 := fun x y => by simp
      have HLL := Lib.hid hll
      have hl1 : ∀ x, (L ++ [x]).length = L.length + 1 := fun x => by simp
      have HL1 := Lib.hid hl1
      clear hbs hll hl1
      rcases hs6 with ⟨rfl, h1⟩ | ⟨rfl, h1⟩ | ⟨rfl, h1⟩ | ⟨rfl, h1⟩ | ⟨rfl, h1⟩ | ⟨t1, t2, t3, t4, t5, h1⟩
      · have H1 := Lib.hid h1
        clear h1
        go_wp2_with (at_builtin; refine wpList_append_own _ rfl _ _ 48 rfl w.heap.size 5 i0 (.int .u8 0) 1 1 Tryd.underlying48 hi0 hz0 hz1 hz2 rfl (by decide) _ _ _ rfl (hown.alloc _) ⟨wr.heap.size, 0, none⟩ 2 2 [.int .u8 92, .int .u8 92] rfl rfl ?z1_1 ?z1_2 ?z1_3 ?z1_4 ?z1_5 ?_)
        (try case z1_1 => exact cell_list _ _ _)
        (try case z1_2 => (first | exact one_cell_k _ _ | (intro u hu; simp at hu; (try rcases hu with rfl | rfl) <;> (try subst hu) <;> rfl)))
        case z1_3 => (first | (simp only [maxLen]; omega) | omega)
        case z1_4 => omega
        case z1_5 => (first | omega | (simp; omega))
        intro v' w1 hown' hgrow _
        have hbel1 := below_own hbel hown (Nat.le_refl _) hgrow
        go_wp2_with fail
        go_roundw
        case rel => exact ⟨k + 1, by omega, by go_num, by rw [HST.out, H1.out, HBS.out, HLL.out]; exact hown', hbel1⟩
        case measure => simp [intOf]; omega
      · have H1 := Lib.hid h1
        clear h1
        go_wp2_with (at_builtin; refine wpList_append_own _ rfl _ _ 48 rfl w.heap.size 5 i0 (.int .u8 0) 1 1 Tryd.underlying48 hi0 hz0 hz1 hz2 rfl (by decide) _ _ _ rfl (hown.alloc _) ⟨wr.heap.size, 0, none⟩ 2 2 [.int .u8 92, .int .u8 115] rfl rfl ?z2_1 ?z2_2 ?z2_3 ?z2_4 ?z2_5 ?_)
        (try case z2_1 => exact cell_list _ _ _)
        (try case z2_2 => (first | exact one_cell_k _ _ | (intro u hu; simp at hu; (try rcases hu with rfl | rfl) <;> (try subst hu) <;> rfl)))
        case z2_3 => (first | (simp only [maxLen]; omega) | omega)
        case z2_4 => omega
        case z2_5 => (first | omega | (simp; omega))
        intro v' w1 hown' hgrow _
        have hbel1 := below_own hbel hown (Nat.le_refl _) hgrow
        go_wp2_with fail
        go_roundw
        case rel => exact ⟨k + 1, by omega, by go_num, by rw [HST.out, H1.out, HBS.out, HLL.out]; exact hown', hbel1⟩
        case measure => simp [intOf]; omega
      · have H1 := Lib.hid h1
        clear h1
        go_wp2_with (at_builtin; refine wpList_append_own _ rfl _ _ 48 rfl w.heap.size 5 i0 (.int .u8 0) 1 1 Tryd.underlying48 hi0 hz0 hz1 hz2 rfl (by decide) _ _ _ rfl (hown.alloc _) ⟨wr.heap.size, 0, none⟩ 2 2 [.int .u8 92, .int .u8 110] rfl rfl ?z3_1 ?z3_2 ?z3_3 ?z3_4 ?z3_5 ?_)
        (try case z3_1 => exact cell_list _ _ _)
        (try case z3_2 => (first | exact one_cell_k _ _ | (intro u hu; simp at hu; (try rcases hu with rfl | rfl) <;> (try subst hu) <;> rfl)))
        case z3_3 => (first | (simp only [maxLen]; omega) | omega)
        case z3_4 => omega
        case z3_5 => (first | omega | (simp; omega))
        intro v' w1 hown' hgrow _
        have hbel1 := below_own hbel hown (Nat.le_refl _) hgrow
        go_wp2_with fail
        go_roundw
        case rel => exact ⟨k + 1, by omega, by go_num, by rw [HST.out, H1.out, HBS.out, HLL.out]; exact hown', hbel1⟩
        case measure => simp [intOf]; omega
      · have H1 := Lib.hid h1
        clear h1
        go_wp2_with (at_builtin; refine wpList_append_own _ rfl _ _ 48 rfl w.heap.size 5 i0 (.int .u8 0) 1 1 Tryd.underlying48 hi0 hz0 hz1 hz2 rfl (by decide) _ _ _ rfl (hown.alloc _) ⟨wr.heap.size, 0, none⟩ 2 2 [.int .u8 92, .int .u8 99] rfl rfl ?z4_1 ?z4_2 ?z4_3 ?z4_4 ?z4_5 ?_)
        (try case z4_1 => exact cell_list _ _ _)
        (try case z4_2 => (first | exact one_cell_k _ _ | (intro u hu; simp at hu; (try rcases hu with rfl | rfl) <;> (try subst hu) <;> rfl)))
        case z4_3 => (first | (simp only [maxLen]; omega) | omega)
        case z4_4 => omega
        case z4_5 => (first | omega | (simp; omega))
        intro v' w1 hown' hgrow _
        have hbel1 := below_own hbel hown (Nat.le_refl _) hgrow
        go_wp2_with fail
        go_roundw
        case rel => exact ⟨k + 1, by omega, by go_num, by rw [HST.out, H1.out, HBS.out, HLL.out]; exact hown', hbel1⟩
        case measure => simp [intOf]; omega
      · have H1 := Lib.hid h1
        clear h1
        go_wp2_with (at_builtin; refine wpList_append_own _ rfl _ _ 48 rfl w.heap.size 5 i0 (.int .u8 0) 1 1 Tryd.underlying48 hi0 hz0 hz1 hz2 rfl (by decide) _ _ _ rfl (hown.alloc _) ⟨wr.heap.size, 0, none⟩ 2 2 [.int .u8 92, .int .u8 101] rfl rfl ?z5_1 ?z5_2 ?z5_3 ?z5_4 ?z5_5 ?_)
        (try case z5_1 => exact cell_list _ _ _)
        (try case z5_2 => (first | exact one_cell_k _ _ | (intro u hu; simp at hu; (try rcases hu with rfl | rfl) <;> (try subst hu) <;> rfl)))
        case z5_3 => (first | (simp only [maxLen]; omega) | omega)
        case z5_4 => omega
        case z5_5 => (first | omega | (simp; omega))
        intro v' w1 hown' hgrow _
        have hbel1 := below_own hbel hown (Nat.le_refl _) hgrow
        go_wp2_with fail
        go_roundw
        case rel => exact ⟨k + 1, by omega, by go_num, by rw [HST.out, H1.out, HBS.out, HLL.out]; exact hown', hbel1⟩
        case measure => simp [intOf]; omega
      · have H1 := Lib.hid h1
        clear h1
        go_wp2_with (at_builtin; refine wpList_append_own _ rfl _ _ 48 rfl w.heap.size 5 i0 (.int .u8 0) 1 1 Tryd.underlying48 hi0 hz0 hz1 hz2 rfl (by decide) _ _ _ rfl (hown.alloc _) ⟨wr.heap.size, 0, none⟩ 1 1 [.int .u8 c] rfl rfl ?z6_1 ?z6_2 ?z6_3 ?z6_4 ?z6_5 ?_)
        (try case z6_1 => exact cell_list _ _ _)
        (try case z6_2 => (first | exact one_cell_k _ _ | (intro u hu; simp at hu; (try rcases hu with rfl | rfl) <;> (try subst hu) <;> rfl)))
        case z6_3 => (first | (simp only [maxLen]; omega) | omega)
        case z6_4 => omega
        case z6_5 => (first | omega | (simp; omega))
        intro v' w1 hown' hgrow _
        have hbel1 := below_own hbel hown (Nat.le_refl _) hgrow
        go_wp2_with fail
        go_roundw
        case rel => exact ⟨k + 1, by omega, by go_num, by rw [HST.out, H1.out, bytesV_snoc, HL1.out]; exact hown', hbel1⟩
        case measure => simp [intOf]; omega
    · obtain rfl : k = s.size := by omega
      have d1 : ¬ (s.size : Int) < s.size := by omega
      rw [show (numsS s).take s.size = numsS s by rw [← numsS_len, List.take_length]] at hown
      have hconv := conv_own hown
      go_wp2_with fail
      go_ret
      exact ⟨rfl, hbel⟩

/-- what the reading of an escaped text answers -/
def unescV (l : List Int) : Value := match unesc l with
  | none => .tuple #[.string ⟨#[]⟩, .int .i64 4]
  | some v => .tuple #[.string (strOfNums v), .int .i64 0]
theorem unescV_none {l : List Int} (h : unesc l = none) : unescV l = .tuple #[.string ⟨#[]⟩, .int .i64 4] := by unfold unescV; rw [h]
theorem unescV_some {l v : List Int} (h : unesc l = some v) : unescV l = .tuple #[.string (strOfNums v), .int .i64 0] := by unfold unescV; rw [h]
theorem tB_nn {s : ByteArray} {k : Nat} (h : k < s.size) : 0 ≤ ((s[k]).toNat : Int) ∧ ((s[k]).toNat : Int) < 256 := by
  have := (s[k]).toNat_lt; omega
set_option maxRecDepth 100000 in
theorem unescape_c (s : ByteArray) (w : World) (hs : s.size ≤ 1000000) :
    Calls Tryd.prog 8 #[.string s] w fun e w' => e = .returned (unescV (numsS s)) ∧ Below w.heap.size w w' := by
  obtain ⟨i0, hi0, hz0, hz1, hz2⟩ := info_parts info_u8
  have hown0 : w.ownsRow w.heap.size 5 1 (.slice none 0 0) 0 [] := w.ownsRow_nil _ _ _
  go_enter Tryd.func8, Tryd.ntmps8
  go_wp2_with fail
  go_loopw [4, 5] (fun b i wr => ∃ (k : Nat) (l : List Int), k ≤ s.size ∧ i = .int .i64 k ∧ l.length ≤ k ∧ ReadTo (numsS s) k l ∧ wr.ownsRow w.heap.size 5 1 b l.length (bytesV l) ∧ Below w.heap.size w wr) (fun _ i _ => s.size - (intOf i).toNat)
  case atStart => exact ⟨0, [], by omega, rfl, by simp, readTo_zero _, hown0, (by repeat (first | (with_reducible exact Below.refl _ _) | (with_reducible assumption) | (with_reducible refine bl_alloc ?_ _) | (with_reducible refine bl_drew ?_) | (with_reducible refine bl_drewN ?_ _) | (with_reducible refine bl_set ?_ (by first | (simp; done) | (simp; omega)) _) | (with_reducible refine bl_trans ?_ ‹_›)))⟩
  case round =>
    obtain ⟨k, l, hk, rfl, hl, hrd, hown, hbel⟩ := hrel
    clear hown0
    have HRD := Lib.hid hrd
    clear hrd
    have hz := hbel.size
    by_cases hlt : k < s.size
    · have d1 : (k : Int) < s.size := by omega
      have hget := numsS_get hlt
      obtain ⟨c0, c1⟩ := tB_nn hlt
      have HG := Lib.hid hget
      clear hget
      generalize hc : ((s[k]).toNat : Int) = c at *
      by_cases h92 : c = 92
      · subst h92
        by_cases hlt2 : k + 1 < s.size
        · have d2 : (k : Int) + 1 < s.size := by omega
          have hget2 := numsS_get hlt2
          obtain ⟨x0, x1⟩ := tB_nn hlt2
          have HG2 := Lib.hid hget2
          clear hget2
          generalize hx : ((s[k + 1]).toNat : Int) = x at *
          cases hm : mI x with
          | none =>
            have hend := readTo_bad HRD.out HG.out HG2.out hm
            have HE := Lib.hid hend
            have hcall := fun w => meant_c x x0 x1 w
            rw [hm] at hcall
            have HC := Lib.hid hcall
            clear hend hcall hm
            go_wp2_with fail
            refine (HC.out _).mono ?_
            rintro e w1 ⟨rfl, hb1⟩
            have hbel1 := bl_trans hbel hb1
            go_wp2_with fail
            refine bodyPost_ret (v := .tuple #[.string ⟨#[]⟩, .int .i64 4]) (by simp [results, Tryd.results8, go_sem]) rfl ⟨by rw [unescV_none HE.out], hbel1⟩
          | some d =>
            have hend := readTo_bs HRD.out HG.out HG2.out hm
            have HE := Lib.hid hend
            have hcall := fun w => meant_c x x0 x1 w
            rw [hm] at hcall
            have HC := Lib.hid hcall
            clear hend hcall hm
            go_wp2_with fail
            refine (HC.out _).mono ?_
            rintro e w1 ⟨rfl, hb1⟩
            have hown1 := own_after hown hb1
            have hbel1' := bl_trans hbel hb1
            have hz1' := hbel1'.size
            clear hown hbel hb1 hz
            go_wp2_with (at_builtin; refine wpList_append_own _ rfl _ _ 48 rfl w.heap.size 5 i0 (.int .u8 0) 1 1 Tryd.underlying48 hi0 hz0 hz1 hz2 rfl (by decide) _ _ _ rfl (hown1.alloc _) ⟨w1.heap.size, 0, none⟩ 1 1 [.int .u8 d] rfl rfl ?z7_1 ?z7_2 ?z7_3 ?z7_4 ?z7_5 ?_)
            (try case z7_1 => exact cell_list _ _ _)
            (try case z7_2 => (first | exact one_cell_k _ _ | (intro u hu; simp at hu; (try rcases hu with rfl | rfl) <;> (try subst hu) <;> rfl)))
            case z7_3 => (first | (simp only [maxLen]; omega) | omega)
            case z7_4 => omega
            case z7_5 => (first | omega | (simp; omega))
            intro v' w1 hown' hgrow _
            have hbel1 := below_own hbel1' hown1 (Nat.le_refl _) hgrow
            go_wp2_with fail
            go_roundw
            case rel => exact ⟨k + 2, l ++ [d], by omega, by go_num, by simp; omega, HE.out, by rw [bytesV_snoc, List.length_append]; exact hown', hbel1⟩
            case measure => simp [intOf]; omega
        · have d2 : ¬ (k : Int) + 1 < s.size := by omega
          have hend : unesc (numsS s) = none := readTo_lone HRD.out HG.out (by rw [List.getElem?_eq_none]; rw [numsS_len]; omega)
          have HE := Lib.hid hend
          clear hend
          go_wp2_with fail
          refine (escaped_c _ _).mono ?_
          rw [eI_back]
          rintro e w1 ⟨rfl, hb1⟩
          have hbel1 := bl_trans hbel hb1
          go_wp2_with fail
          refine bodyPost_ret (v := .tuple #[.string ⟨#[]⟩, .int .i64 4]) (by simp [results, Tryd.results8, go_sem]) rfl ⟨by rw [unescV_none HE.out], hbel1⟩
      · have d92 : (c == 92) = false := beq_eq_false_iff_ne.2 h92
        by_cases he : eI c = 0
        · have hend := readTo_plain HRD.out HG.out he
          have HE := Lib.hid hend
          clear hend
          go_wp2_with fail
          refine (escaped_c _ _).mono ?_
          rw [he]
          rintro e w1 ⟨rfl, hb1⟩
          have hown1 := own_after hown hb1
          have hbel1' := bl_trans hbel hb1
          have hz1' := hbel1'.size
          clear hown hbel hb1 hz he
          go_wp2_with (at_builtin; refine wpList_append_own _ rfl _ _ 48 rfl w.heap.size 5 i0 (.int .u8 0) 1 1 Tryd.underlying48 hi0 hz0 hz1 hz2 rfl (by decide) _ _ _ rfl (hown1.alloc _) ⟨w1.heap.size, 0, none⟩ 1 1 [.int .u8 c] rfl rfl ?z8_1 ?z8_2 ?z8_3 ?z8_4 ?z8_5 ?_)
          (try case z8_1 => exact cell_list _ _ _)
          (try case z8_2 => (first | exact one_cell_k _ _ | (intro u hu; simp at hu; (try rcases hu with rfl | rfl) <;> (try subst hu) <;> rfl)))
          case z8_3 => (first | (simp only [maxLen]; omega) | omega)
          case z8_4 => omega
          case z8_5 => (first | omega | (simp; omega))
          intro v' w1 hown' hgrow _
          have hbel1 := below_own hbel1' hown1 (Nat.le_refl _) hgrow
          go_wp2_with fail
          go_roundw
          case rel => exact ⟨k + 1, l ++ [c], by omega, by go_num, by simp; omega, HE.out, by rw [bytesV_snoc, List.length_append]; exact hown', hbel1⟩
          case measure => simp [intOf]; omega
        · have hend := readTo_odd HRD.out HG.out h92 he
          have HE := Lib.hid hend
          have hx : (eI c != 0) = true := by simpa using he
          clear hend he
          go_wp2_with fail
          refine (escaped_c _ _).mono ?_
          rintro e w1 ⟨rfl, hb1⟩
          have hbel1 := bl_trans hbel hb1
          go_wp2_with fail
          refine bodyPost_ret (v := .tuple #[.string ⟨#[]⟩, .int .i64 4]) (by simp [results, Tryd.results8, go_sem]) rfl ⟨by rw [unescV_none HE.out], hbel1⟩
    · obtain rfl : k = s.size := by omega
      have d1 : ¬ (s.size : Int) < s.size := by omega
      have hend := readTo_end HRD.out (by rw [numsS_len]; omega)
      have HE := Lib.hid hend
      have hconv := conv_own hown
      clear hend
      go_wp2_with fail
      refine bodyPost_ret (v := .tuple #[.string (strOfNums l), .int .i64 0]) (by simp [results, Tryd.results8, go_sem]) rfl ⟨by rw [unescV_some HE.out], hbel⟩
end Go.Proofs.YtanflcccjjbkgaaDoor
