/- Addresses: what is known of the package's variables; four decimal numbers read. -/
import Derived.Test.YtgdgklibilddgaaDoorAdA
import Derived.Test.YtgdgklibilddgaaDoorAdR
import Derived.Lib.LaidTab
import Derived.Lib.AppendIntMem
import Derived.Lib.AtoiErrMem
import Derived.Shelf.Spec.TrailingZeros
import Derived.Outline
namespace Go.Proofs.YtgdgklibilddgaaDoor
open Go.RowKit

/-- the variables that the walks read -/
structure Glob (w : World) : Prop where
  max : ∃ m : Int, w.cell? ⟨0, 0, none⟩ = some (.int .i64 m)
  syn : ∃ tp p, w.var? Tryd.prog "strconv.ErrSyntax" = some #[.iface tp p]
  rng : ∃ tp p, w.var? Tryd.prog "strconv.ErrRange" = some #[.iface tp p]
  tab : Lib.TabIs Tryd.prog w "internal/strconv.uint64pow10" .u64 Lib.pow10Tab
  bru : ∀ j, j < 64 → w.cell? ⟨5, j, none⟩ = some (.int .u8 (Lib.deBruijn64tab.getD j 0 : Nat))
theorem cell_blt {w : World} {p : Addr} {v : Value} (h : w.cell? p = some v) : p.block < w.heap.size := World.block_lt_of_cell? w p h
theorem var_lt {P : Program} {w : World} {n : String} {g : Nat} {cs : Array Value} (hg : P.globalNamed n = some g) (h : w.var? P n = some cs) : g < w.heap.size := by
  unfold World.var? at h
  simp only [hg, Option.bind_some] at h
  rcases Nat.lt_or_ge g w.heap.size with k | k
  · exact k
  · rw [Array.getElem?_eq_none k] at h; simp at h
theorem var_after {P : Program} {w w' : World} {n : String} {g : Nat} {cs : Array Value} (hg : P.globalNamed n = some g) (h : w.var? P n = some cs) (hb : Below w.heap.size w w') : w'.var? P n = some cs :=
  var?_below hb hg (var_lt hg h) h
theorem Glob.after {w w' : World} (h : Glob w) (hb : Below w.heap.size w w') : Glob w' := by
  obtain ⟨⟨m, h1⟩, ⟨t2, p2, h2⟩, ⟨t3, p3, h3⟩, h4, h5⟩ := h
  exact ⟨⟨m, (hb.cell (p := ⟨_, 0, none⟩) (cell_blt h1)).trans h1⟩, ⟨t2, p2, var_after (g := 2) (by kernel_rfl) h2 hb⟩, ⟨t3, p3, var_after (g := 3) (by kernel_rfl) h3 hb⟩, var_after (g := 1) (by kernel_rfl) h4 hb,
    fun j hj => (hb.cell (p := ⟨_, j, none⟩) (cell_blt (h5 j hj))).trans (h5 j hj)⟩
theorem or_u32 (a b : Nat) (ha : a < 4294967296) (hb : b < 4294967296) : bits .or .u32 (a : Int) (b : Int) = ((a ||| b : Nat) : Int) := by
  have hx : a ||| b < 2 ^ 32 := Nat.or_lt_two_pow (by omega) (by omega)
  have h1 : (BitVec.ofInt 32 (a : Int)).toNat = a := by
    rw [BitVec.ofInt_natCast, BitVec.toNat_ofNat]; exact Nat.mod_eq_of_lt (by omega)
  have h2 : (BitVec.ofInt 32 (b : Int)).toNat = b := by
    rw [BitVec.ofInt_natCast, BitVec.toNat_ofNat]; exact Nat.mod_eq_of_lt (by omega)
  show IntKind.u32.wrap ((BitVec.ofInt 32 (a : Int) ||| BitVec.ofInt 32 (b : Int)).toNat : Int) = _
  rw [BitVec.toNat_or, h1, h2]
  show ((a ||| b : Nat) : Int) % 4294967296 = _
  omega
/-- the bytes of a text -/
def bts (s : ByteArray) : List UInt8 := s.data.toList
/-- the pieces of a text as the library hands them back -/
def piecesB (c : UInt8) (s : ByteArray) : List ByteArray := Lib.splitB ⟨#[c]⟩ 0 (Lib.countB s ⟨#[c]⟩) s
theorem piecesB_eq (c : UInt8) (s : ByteArray) : (piecesB c s).map bts = pieces c (bts s) := by
  unfold piecesB bts
  rw [← split_one]
  exact Lib.splitB_data ⟨#[c]⟩ 0 _ s
theorem piecesB_len (c : UInt8) (s : ByteArray) : Lib.countB s ⟨#[c]⟩ + 1 = (piecesB c s).length := (Lib.splitB_all ⟨#[c]⟩ (by show 1 ≤ 1; omega) 0 _ s rfl).symm
/-- strings.Split at one sign -/
theorem split_c (c : UInt8) (s : ByteArray) (w : World) (hs : s.size ≤ 1000000) (hG : Glob w) :
    Calls Tryd.prog 61 #[.string s, .string ⟨#[c]⟩] w fun e w' => e = .returned (.slice (some ⟨w.heap.size, 0, none⟩) (piecesB c s).length (piecesB c s).length) ∧ w' = w.alloc (.cells ((piecesB c s).map Value.string).toArray 9) := by
  obtain ⟨m, hm⟩ := hG.max
  have := Tryd.strings_Split s ⟨#[c]⟩ m w (by omega) hm (by show 1 ≤ 1; omega)
  rw [piecesB_len] at this
  exact this
theorem pieces_size (c : UInt8) (s : ByteArray) : ∀ p ∈ pieces c (bts s), p.length ≤ s.size := by
  have : ∀ l : List UInt8, ∀ p ∈ pieces c l, p.length ≤ l.length := by
    intro l
    induction l with
    | nil => intro p hp; simp [pieces] at hp; subst hp; simp
    | cons x r ih =>
      intro p hp
      by_cases e : x = c
      · subst e
        rw [pieces_sep] at hp
        rcases List.mem_cons.1 hp with h | h
        · subst h; simp
        · have := ih p h; simp; omega
      · obtain ⟨a, q, e1, e2⟩ := pieces_cons (r := r) e
        rw [e2] at hp
        rcases List.mem_cons.1 hp with h | h
        · subst h
          have := ih a (by rw [e1]; simp)
          simp; omega
        · have := ih p (by rw [e1]; simp [h]); simp; omega
  intro p hp
  have h := this _ p hp
  simpa [bts] using h
def itoaT (n : Nat) : ByteArray := ⟨(Lib.decDigits n).toArray⟩
theorem itoa_c (n : Nat) (w : World) (hn : n < 1000000) (hG : Glob w) :
    Calls Tryd.prog 57 #[.int .i64 n] w fun e w' => e = .returned (.string (itoaT n)) ∧ Below w.heap.size w w' := by
  refine (Tryd.strconv_Itoa n (by omega) (by omega) w hG.tab).mono ?_
  rintro e w' ⟨rfl, k, os, rfl⟩
  refine ⟨?_, Lib.below_grow _ w (Nat.le_refl _) k os⟩
  have : Lib.itoa (n : Int) = Lib.decDigits n := by unfold Lib.itoa; rw [if_neg (by omega)]; simp
  rw [this]; rfl
/-- ParseUint at base 10, 8 bits -/
theorem puint_ok (s : ByteArray) (w : World) (hs : s.size ≤ 1000000) (u : Nat) (h : Lib.parseUintB 8 (bts s) = .ok u) :
    Calls Tryd.prog 62 #[.string s, .int .i64 10, .int .i64 8] w fun e w' => e = .returned (.tuple #[.int .u64 u, .nilIface]) ∧ Below w.heap.size w w' := by
  refine (Tryd.strconv_ParseUint_10_at8_ok s (by omega) u h w).mono ?_
  rintro e w' ⟨rfl, rfl | rfl⟩
  · exact ⟨rfl, Below.refl _ _⟩
  · exact ⟨rfl, Lib.bytesWorld_below _ _ _⟩
theorem puint_bad (s : ByteArray) (w : World) (hs : s.size ≤ 1000000) (hG : Glob w) (h : Lib.parseUintB 8 (bts s) = Lib.parseUintB 8 [] ∨ Lib.parseUintB 8 (bts s) = .range) :
    Calls Tryd.prog 62 #[.string s, .int .i64 10, .int .i64 8] w fun e w' => (∃ (n : Int) (N : Nat), e = .returned (.tuple #[.int .u64 n, .iface 129 (.pointer (some ⟨N, 0, none⟩))])) ∧ Below w.heap.size w w' := by
  rcases h with h | h
  · obtain ⟨tp, p, hv⟩ := hG.syn
    refine (Tryd.strconv_ParseUint_10_at8_syntax_var s (by omega) h tp p w hv).mono ?_
    rintro e w' ⟨N, rfl, _, _, hb⟩
    exact ⟨⟨_, N, rfl⟩, hb⟩
  · obtain ⟨tp, p, hv⟩ := hG.rng
    refine (Tryd.strconv_ParseUint_10_at8_range_var s (by omega) h tp p w hv).mono ?_
    rintro e w' ⟨N, rfl, _, _, hb⟩
    exact ⟨⟨_, N, rfl⟩, hb⟩
theorem valB_snoc (t : List Nat) (k : Nat) : valB (t ++ [k]) = 256 * valB t + k := by unfold valB; rw [List.foldl_append]; rfl
theorem foldB_lt : ∀ (l : List Nat) (a : Nat), (∀ k ∈ l, k < 256) → l.foldl (fun a b => 256 * a + b) a < (a + 1) * 256 ^ l.length
  | [], a, _ => by simp
  | x :: l, a, h => by
    have h1 := h x (by simp)
    have h2 := foldB_lt l (256 * a + x) (fun k hk => h k (by simp [hk]))
    rw [List.foldl_cons, List.length_cons, Nat.pow_succ, Nat.mul_comm (256 ^ l.length) 256, ← Nat.mul_assoc]
    exact Nat.lt_of_lt_of_le h2 (Nat.mul_le_mul_right _ (by omega))
theorem valB_lt (t : List Nat) (h : ∀ k ∈ t, k < 256) : valB t < 256 ^ t.length := by
  have := foldB_lt t 0 h
  simpa [valB] using this
theorem mapM8_take {l : List (List UInt8)} {k : Nat} {p : List UInt8} {t : List Nat} (hp : l[k]? = some p) (h : (l.take k).mapM dec8 = some t) : (l.take (k + 1)).mapM dec8 = (dec8 p).map (t ++ [·]) := by
  have : l.take (k + 1) = l.take k ++ [p] := by
    obtain ⟨hi, rfl⟩ := List.getElem?_eq_some_iff.1 hp
    rw [List.take_succ_eq_append_getElem hi]
  rw [this, List.mapM_append, h]
  cases hd : dec8 p <;> simp [hd]
theorem mapM8_bad {l : List (List UInt8)} {k : Nat} {p : List UInt8} (hp : l[k]? = some p) (h : dec8 p = none) : l.mapM dec8 = none := by
  have : ∀ (l : List (List UInt8)), p ∈ l → l.mapM dec8 = none := by
    intro l
    induction l with
    | nil => intro h; simp at h
    | cons a r ih =>
      intro hm
      rw [mapM_cons8]
      rcases List.mem_cons.1 hm with e | e
      · subst e; rw [h]
      · cases dec8 a with
        | none => rfl
        | some _ => simp [ih e]
  exact this l (List.mem_of_getElem? hp)
/-- what the reading of four numbers answers -/
def fourV (l : List (List UInt8)) : Value := match four l with
  | none => .tuple #[.int .u32 0, .bool false]
  | some t => .tuple #[.int .u32 (valB t : Nat), .bool true]
set_option maxRecDepth 100000 in
theorem parse4_c (s : ByteArray) (w : World) (hs : s.size ≤ 1000000) (hG : Glob w) :
    Calls Tryd.prog 33 #[.string s] w fun e w' => e = .returned (fourV (pieces 46 (bts s))) ∧ Below w.heap.size w w' := by
  have HS := Lib.hid (split_c 46 s w hs hG)
  go_enter Tryd.func33, Tryd.ntmps33
  go_wp2_with fail
  refine HS.out.mono ?_
  rintro e w1 ⟨rfl, rfl⟩
  have hbl : (piecesB 46 s).map bts = pieces 46 (bts s) := piecesB_eq 46 s
  have hps : ∀ p ∈ piecesB 46 s, p.size ≤ s.size := fun p hp => by
    have := pieces_size 46 s (bts p) (by rw [← hbl]; exact List.mem_map_of_mem hp)
    simpa [bts] using this
  by_cases h4 : (piecesB 46 s).length = 4
  · have hcell : ∀ (w0 : World) (j : Nat) (x : ByteArray), (piecesB 46 s)[j]? = some x → (w0.alloc (.cells ((piecesB 46 s).map Value.string).toArray 9)).cell? ⟨w0.heap.size, j, none⟩ = some (.string x) := fun w0 j x hx => by
      rw [World.cell?_alloc_new]; simp [hx]
    have hc := fun j x hx => hcell w j x hx
    clear hcell HS
    have hG1 : Glob (w.alloc (.cells ((piecesB 46 s).map Value.string).toArray 9)) := hG.after (by repeat (first | (with_reducible exact Below.refl _ _) | (with_reducible assumption) | (with_reducible refine bl_alloc ?_ _) | (with_reducible refine bl_drew ?_) | (with_reducible refine bl_drewN ?_ _) | (with_reducible refine bl_set ?_ (by first | (simp; done) | (simp; omega)) _) | (with_reducible refine bl_trans ?_ ‹_›)))
    have hbel1 : Below w.heap.size w (w.alloc (.cells ((piecesB 46 s).map Value.string).toArray 9)) := (by repeat (first | (with_reducible exact Below.refl _ _) | (with_reducible assumption) | (with_reducible refine bl_alloc ?_ _) | (with_reducible refine bl_drew ?_) | (with_reducible refine bl_drewN ?_ _) | (with_reducible refine bl_set ?_ (by first | (simp; done) | (simp; omega)) _) | (with_reducible refine bl_trans ?_ ‹_›)))
    have hz1 : w.heap.size < (w.alloc (.cells ((piecesB 46 s).map Value.string).toArray 9)).heap.size := by simp
    generalize hL : piecesB 46 s = L at *
    have hL4 : (L.length : Int) = 4 := by omega
    generalize w.alloc (.cells (L.map Value.string).toArray 9) = w1 at *
    have HBL := Lib.hid hbl
    have HC := Lib.hid hc
    have HPS := Lib.hid hps
    have H4 := Lib.hid h4
    rw [h4]
    clear hbl hc hps hL h4 hL4 hG
    go_wp2_with fail
    go_loopw [5, 17] (fun sn i wr => ∃ (k : Nat) (t : List Nat), k ≤ 4 ∧ i = .int .i64 k ∧ ((L.map bts).take k).mapM dec8 = some t ∧ sn = .int .u32 (valB t : Nat) ∧ Below w1.heap.size w1 wr) (fun _ i _ => 4 - (intOf i).toNat)
    case atStart => exact ⟨0, [], by omega, rfl, rfl, rfl, Below.refl _ _⟩
    case round =>
      obtain ⟨k, t, hk, rfl, hm, rfl, hbel⟩ := hrel
      have HM := Lib.hid hm
      have hGr := hG1.after hbel
      obtain ⟨ht1, ht2⟩ := mapM8_lt hm
      rw [List.length_take, List.length_map, H4.out] at ht1
      have ht3 : ∀ x ∈ t, x < 256 := fun x hx => by have := ht2 x hx; omega
      have hvt := valB_lt t ht3
      rw [ht1] at hvt
      clear hm ht1 ht2 ht3
      by_cases hlt : k < 4
      · have d1 : (k : Int) < 4 := by omega
        obtain ⟨p, hp⟩ : ∃ p, L[k]? = some p := ⟨_, List.getElem?_eq_getElem (by rw [H4.out]; exact hlt)⟩
        have hcell := (hbel.cell (p := ⟨w.heap.size, k, none⟩) hz1).trans (HC.out k p hp)
        have hpsz := HPS.out p (List.mem_of_getElem? hp)
        have hpm : (L.map bts)[k]? = some (bts p) := by simp [hp]
        have HPM := Lib.hid hpm
        have hv8 : valB t < 16777216 := by
          have : 256 ^ (min k 4) ≤ 256 ^ 3 := Nat.pow_le_pow_right (by omega) (by omega)
          omega
        clear hp hpm hvt
        rcases dec8_read (bts p) with ⟨u, hu, h1, h2, h3⟩ | ⟨u, h1, hu, h2, h3⟩ | ⟨h1, h3⟩ | ⟨h1, h3⟩
        · have HU := Lib.hid (fun w => puint_ok p w (by omega) u h1)
          have hit : itoaT u = p := by
            apply ByteArray.ext
            show (Lib.decDigits u).toArray = p.data
            rw [h2]; simp [bts]
          have HI := Lib.hid (fun w hG => itoa_c u w (by omega) hG)
          rw [hit] at HI
          have H3 := Lib.hid h3
          clear h1 h2 h3 hit
          go_wp2_with fail
          refine (HU.out _).mono ?_
          rintro e w2 ⟨rfl, hb2⟩
          have hbel2 := bl_trans hbel hb2
          have hG2 := hGr.after hb2
          have hc2 : IntKind.u32.wrap (u : Int) = u := by show (u : Int) % 4294967296 = u; omega
          have hc3 : IntKind.u32.wrap ((valB t : Int) * 256) = ((valB t * 256 : Nat) : Int) := by show ((valB t : Int) * 256) % 4294967296 = _; omega
          have hor := or_u32 (valB t * 256) u (by omega) (by omega)
          rw [show valB t * 256 ||| u = valB t * 256 + u from by rw [Nat.mul_comm, show (256 : Nat) = 2 ^ 8 by decide, ← Nat.two_pow_add_eq_or_of_lt (by omega)]] at hor
          clear hbel hGr hb2
          go_wp2_with fail
          refine (HI.out _ hG2).mono ?_
          rintro e w3 ⟨rfl, hb3⟩
          have hbel3 := bl_trans hbel2 hb3
          go_wp2_with fail
          go_roundw
          case rel =>
            refine ⟨k + 1, t ++ [u], by omega, by go_num, ?_, ?_, bl_trans hbel2 hb3⟩
            · rw [mapM8_take HPM.out HM.out, H3.out]; rfl
            · have e : (valB t : Int) * 256 = ((valB t * 256 : Nat) : Int) := by omega
              rw [e, hor, valB_snoc, Nat.mul_comm]
          case measure => simp [intOf]; omega
        · have HU := Lib.hid (fun w => puint_ok p w (by omega) u h1)
          have hit : ((itoaT u).toList == p.toList) = false := by
            rw [beq_eq_false_iff_ne, Lib.toList_data, Lib.toList_data]
            exact h2
          have HI := Lib.hid (fun w hG => itoa_c u w (by omega) hG)
          have hV : fourV (pieces 46 (bts s)) = .tuple #[.int .u32 0, .bool false] := by
            rw [← HBL.out]; unfold fourV four
            rw [mapM8_bad HPM.out h3]; simp
          have HV := Lib.hid hV
          generalize itoaT u = q at *
          clear h1 h2 h3 hV
          go_wp2_with fail
          refine (HU.out _).mono ?_
          rintro e w2 ⟨rfl, hb2⟩
          have hbel2 := bl_trans hbel hb2
          have hG2 := hGr.after hb2
          clear hbel hGr hb2
          go_wp2_with fail
          refine (HI.out _ hG2).mono ?_
          rintro e w3 ⟨rfl, hb3⟩
          have hbel3 := bl_trans hbel2 hb3
          go_wp2_with fail
          go_ret2
          exact ⟨by rw [HV.out]; rfl, bl_trans hbel1 hbel3⟩
        · have HU := Lib.hid (fun w hG => puint_bad p w (by omega) hG (.inl h1))
          have hV : fourV (pieces 46 (bts s)) = .tuple #[.int .u32 0, .bool false] := by
            rw [← HBL.out]; unfold fourV four
            rw [mapM8_bad HPM.out h3]; simp
          have HV := Lib.hid hV
          clear h1 h3 hV
          go_wp2_with fail
          refine (HU.out _ hGr).mono ?_
          rintro e w2 ⟨⟨n, N, rfl⟩, hb2⟩
          have hbel2 := bl_trans hbel hb2
          clear hbel hGr hb2
          go_wp2_with fail
          go_ret2
          exact ⟨by rw [HV.out]; rfl, bl_trans hbel1 hbel2⟩
        · have HU := Lib.hid (fun w hG => puint_bad p w (by omega) hG (.inr h1))
          have hV : fourV (pieces 46 (bts s)) = .tuple #[.int .u32 0, .bool false] := by
            rw [← HBL.out]; unfold fourV four
            rw [mapM8_bad HPM.out h3]; simp
          have HV := Lib.hid hV
          clear h1 h3 hV
          go_wp2_with fail
          refine (HU.out _ hGr).mono ?_
          rintro e w2 ⟨⟨n, N, rfl⟩, hb2⟩
          have hbel2 := bl_trans hbel hb2
          clear hbel hGr hb2
          go_wp2_with fail
          go_ret2
          exact ⟨by rw [HV.out]; rfl, bl_trans hbel1 hbel2⟩
      · obtain rfl : k = 4 := by omega
        have d1 : ¬ (4 : Int) < 4 := by omega
        have hV : fourV (pieces 46 (bts s)) = .tuple #[.int .u32 (valB t : Nat), .bool true] := by
          have h1 := HM.out
          rw [← HBL.out]; unfold fourV four
          have h2 : (L.map bts).length = 4 := by rw [List.length_map]; exact H4.out
          rw [if_pos h2]
          rw [show (L.map bts).take 4 = L.map bts by rw [← h2, List.take_length]] at h1
          rw [h1]
        have HV := Lib.hid hV
        clear hV hvt
        generalize valB t = V at *
        go_wp2_with fail
        go_ret2
        exact ⟨by rw [HV.out]; rfl, bl_trans hbel1 hbel⟩
  · have d4 : (((piecesB 46 s).length : Int) != 4) = true := by simp; omega
    have hf : four (pieces 46 (bts s)) = none := by unfold four; rw [if_neg (by rw [← piecesB_eq, List.length_map]; exact h4)]
    have hV : fourV (pieces 46 (bts s)) = .tuple #[.int .u32 0, .bool false] := by unfold fourV; rw [hf]
    have HV := Lib.hid hV
    clear hf hV h4
    go_wp2_with fail
    go_ret2
    exact ⟨by rw [HV.out]; rfl, (by repeat (first | (with_reducible exact Below.refl _ _) | (with_reducible assumption) | (with_reducible refine bl_alloc ?_ _) | (with_reducible refine bl_drew ?_) | (with_reducible refine bl_drewN ?_ _) | (with_reducible refine bl_set ?_ (by first | (simp; done) | (simp; omega)) _) | (with_reducible refine bl_trans ?_ ‹_›)))⟩
end Go.Proofs.YtgdgklibilddgaaDoor
