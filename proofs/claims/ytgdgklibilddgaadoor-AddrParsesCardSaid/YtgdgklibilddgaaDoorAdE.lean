/- Addresses: the address of groups; any text is read. -/
import Derived.Test.YtgdgklibilddgaaDoorAdD
namespace Go.Proofs.YtgdgklibilddgaaDoor
open Go.RowKit

theorem room16 {P x d : Nat} (hP : P % 65536 = 0) (hx : x * 65536 < P) (hd : d < 65536) : x < P ∧ x * 65536 + d < P := by omega
set_option maxRecDepth 100000 in
theorem put_c (a x d base : Nat) (w : World) (hA : Blk w a 26 (AddrC true x)) (hx : x * 65536 < 340282366920938463463374607431768211456) (hd : d < 65536) (hb : base ≤ a) :
    Calls Tryd.prog 65 #[.int .u16 d, .pointer (some ⟨a, 0, none⟩)] w fun e w' => e = .returned (.tuple #[]) ∧ Blk w' a 26 (AddrC true (x*65536+d)) ∧ Below base w w' := by
  obtain ⟨hx', hsum⟩ := room16 (P := 340282366920938463463374607431768211456) (d := d) (by decide) hx hd
  have hc : IntKind.u64.wrap (d : Int) = d := by show (d : Int) % 18446744073709551616 = d; omega
  have HS := Lib.hid (fun w => shl_c (hi x) (lo x) 16 w (hi_nn _) (hi_lt _) (lo_nn _) (lo_lt _) (by omega))
  rw [num_hi_lo hx'] at HS
  have HO := Lib.hid (fun w => of_c (d : Int) w (by omega) (by omega))
  rw [Int.toNat_natCast] at HO
  have hsh : shlN x 16 < 340282366920938463463374607431768211456 := by
    have h := shl_or (x := x) (k := 16) (d := 0) hx (by omega) (by omega)
    rw [Nat.or_zero, Nat.add_zero] at h
    exact (congrArg (· < _) (h : shlN x 16 = _)).mpr hx
  have HR := Lib.hid (fun w => orn_c (shlN x 16) d w hsh (Nat.lt_trans hd (by decide)))
  have e1 : shlN x 16 ||| d = x * 65536 + d := shl_or (x := x) (k := 16) (d := d) hx (by omega) hd
  rw [e1] at HR
  obtain ⟨c0, c1, c2, _⟩ := blk_adr hA
  have z0 := hA.frozen 0
  have z1 := hA.frozen 1
  have z2 := hA.frozen 2
  have hal := hA.lt
  clear hsh e1
  go_enter Tryd.func65, Tryd.ntmps65
  go_wp2_with fail
  refine (HS.out _).mono ?_
  rintro e w1 ⟨rfl, hb1⟩
  have hA1 := hA.after hb1
  go_wp2_with fail
  refine (HO.out _).mono ?_
  rintro e w2 ⟨rfl, hb2⟩
  have hA2 := hA1.after hb2
  go_wp2_with fail
  refine (HR.out _).mono ?_
  rintro e w3 ⟨rfl, hb3⟩
  have hA3 := hA2.after hb3
  have s1 := hb1.size
  have s2 := hb2.size
  have k3 : Below base w w3 := (hb1.mono (by omega)).trans ((hb2.mono (by omega)).trans (hb3.mono (by omega)))
  clear s1 s2
  have y0 := hA3.frozen 0
  have y1 := hA3.frozen 1
  have y2 := hA3.frozen 2
  obtain ⟨d0, d1, d2, _⟩ := blk_adr hA3
  clear z0 z1 z2 c0 c1 c2
  unfold numV
  go_wp2_with fail
  go_end0
  exact ⟨rfl, (hA3.put 1 _).put 2 _, Below.setCell (Below.setCell k3 hb _) hb _⟩
theorem valG_snoc (l : List Nat) (g : Nat) : valG (l ++ [g]) = valG l * 65536 + g := by unfold valG; rw [List.foldl_append]; show 65536 * _ + g = _; omega
theorem valG_lt : ∀ (l : List Nat), (∀ g ∈ l, g < 65536) → valG l < 65536 ^ l.length := by
  have key : ∀ (l : List Nat) (a : Nat), (∀ k ∈ l, k < 65536) → l.foldl (fun a b => 65536 * a + b) a < (a + 1) * 65536 ^ l.length := by
    intro l
    induction l with
    | nil => intro a _; simp
    | cons x l ih =>
      intro a h
      have h1 := h x (by simp)
      have h2 := ih (65536 * a + x) (fun k hk => h k (by simp [hk]))
      rw [List.foldl_cons, List.length_cons, Nat.pow_succ, Nat.mul_comm (65536 ^ l.length) 65536, ← Nat.mul_assoc]
      exact Nat.lt_of_lt_of_le h2 (Nat.mul_le_mul_right _ (by omega))
  intro l h
  have := key l 0 h
  simpa [valG] using this
theorem valG_room {l : List Nat} (h : ∀ g ∈ l, g < 65536) (hl : l.length < 8) : valG l * 65536 < 340282366920938463463374607431768211456 := by
  have h1 := valG_lt l h
  have h2 : 65536 ^ l.length ≤ 65536 ^ 7 := Nat.pow_le_pow_right (by omega) (by omega)
  have h3 : valG l < 65536 ^ 7 := Nat.lt_of_lt_of_le h1 h2
  have h4 : valG l * 65536 < 65536 ^ 7 * 65536 := Nat.mul_lt_mul_of_pos_right h3 (by omega)
  exact h4
theorem own_at {w : World} {base n c : Nat} {e : TypeId} {al : Option Addr} {xs : List Value} (h : w.ownsRow base e 1 (.slice al n c) n xs) (hn : 0 < n) :
    ∃ g, al = some ⟨g, 0, none⟩ ∧ g < w.heap.size ∧ ∀ j, j < n → w.cell? ⟨g, j, none⟩ = xs[j]? := by
  rcases h.2 with ⟨hv, h0⟩ | ⟨g, cap, cur, hv, _⟩
  · omega
  · injection hv with h1 h2 h3
    subst h1 h3
    exact ⟨g, rfl, (h.lt g (by simp [Value.ownBlock])).2, fun j hj => h.cellAt j (by omega)⟩
theorem u16V_at {L : List Nat} {k : Nat} (hk : k < L.length) : (u16V L)[k]? = some (.int .u16 (L[k] : Nat)) := by unfold u16V; simp [hk]
set_option maxRecDepth 100000 in
set_option maxHeartbeats 3200000 in
theorem long6_c (vl vr : Value) (L R : List Nat) (w : World) (hL : w.ownsRow 0 48 1 vl L.length (u16V L)) (hR : w.ownsRow 0 48 1 vr R.length (u16V R)) (hl : ∀ g ∈ L, g < 65536) (hr : ∀ g ∈ R, g < 65536) (h8 : L.length + R.length ≤ 8) :
    Calls Tryd.prog 37 #[vl, vr] w fun e w' => e = .returned (AddrV true (valG (L ++ nulls (8 - (L.length + R.length)) ++ R))) ∧ Below w.heap.size w w' := by
  obtain ⟨al, cl, rfl⟩ := own_slice hL
  obtain ⟨ar, cr, rfl⟩ := own_slice hR
  have HL := Lib.hid (fun h => own_at hL h)
  have HR := Lib.hid (fun h => own_at hR h)
  have HLL := Lib.hid hl
  have HRR := Lib.hid hr
  generalize hll : L.length = nl at *
  generalize hrl : R.length = nr at *
  have HNL := Lib.hid hll
  have HNR := Lib.hid hrl
  clear hL hR hl hr hll hrl
  go_enter Tryd.func37, Tryd.ntmps37
  go_wp2_with fail
  have hA0 : Blk ((w.alloc (Obj.cells #[Value.bool false, Value.int IntKind.u64 0, Value.int IntKind.u64 0] 26)).alloc (Obj.cells #[Value.bool true, Value.int IntKind.u64 0, Value.int IntKind.u64 0] 26)) (w.heap.size + 1) 26 (AddrC true (valG [])) := Blk.new' _ _ _ _ (by simp)
  have hbel0 : Below w.heap.size w ((w.alloc (Obj.cells #[Value.bool false, Value.int IntKind.u64 0, Value.int IntKind.u64 0] 26)).alloc (Obj.cells #[Value.bool true, Value.int IntKind.u64 0, Value.int IntKind.u64 0] 26)) := (by repeat (first | (with_reducible exact Below.refl _ _) | (with_reducible assumption) | (with_reducible refine bl_alloc ?_ _) | (with_reducible refine bl_drew ?_) | (with_reducible refine bl_drewN ?_ _) | (with_reducible refine bl_set ?_ (by first | (simp; done) | (simp; omega)) _) | (with_reducible refine bl_trans ?_ ‹_›)))
  have hZ0 : Blk ((w.alloc (Obj.cells #[Value.bool false, Value.int IntKind.u64 0, Value.int IntKind.u64 0] 26)).alloc (Obj.cells #[Value.bool true, Value.int IntKind.u64 0, Value.int IntKind.u64 0] 26)) w.heap.size 26 (AddrC false 0) := (Blk.new w 26 (AddrC false 0)).alloc _
  generalize (w.alloc (Obj.cells #[Value.bool false, Value.int IntKind.u64 0, Value.int IntKind.u64 0] 26)).alloc (Obj.cells #[Value.bool true, Value.int IntKind.u64 0, Value.int IntKind.u64 0] 26) = w0 at *
  go_loopw [15] (fun i wr => ∃ k : Nat, k ≤ nl ∧ i = .int .i64 k ∧ Blk wr (w.heap.size + 1) 26 (AddrC true (valG (L.take k))) ∧ Below (w.heap.size + 1) w0 wr) (fun i _ => nl - (intOf i).toNat)
  case atStart => exact ⟨0, by omega, rfl, by simpa using hA0, Below.refl _ _⟩
  case round =>
    obtain ⟨k, hk, rfl, hA, hbw⟩ := hrel; have hbel := hbel0.trans (hbw.mono (Nat.le_succ _))
    by_cases hlt : k < nl
    · have d1 : (k : Int) < nl := by omega
      obtain ⟨g, rfl, hg, hcs⟩ := HL.out (by omega)
      have hkL : k < L.length := by rw [HNL.out]; exact hlt
      have hcell := (hbel.cell (p := ⟨g, k, none⟩) hg).trans ((hcs k hlt).trans (u16V_at hkL))
      have hd := HLL.out L[k] (List.getElem_mem hkL)
      have hT : valG (L.take k) * 65536 < 340282366920938463463374607431768211456 := valG_room (fun x hx => HLL.out x (List.mem_of_mem_take hx)) (by rw [List.length_take]; omega)
      have hT2 : valG (L.take (k + 1)) = valG (L.take k) * 65536 + L[k] := by rw [List.take_succ_eq_append_getElem hkL, valG_snoc]
      have HP := Lib.hid (put_c (w.heap.size + 1) (valG (L.take k)) L[k] (w.heap.size + 1) _ hA hT hd (Nat.le_refl _))
      rw [← hT2] at HP
      generalize L[k] = x at *
      clear hT hT2 hcs hkL
      go_wp2_with fail
      refine HP.out.mono ?_
      rintro e w1 ⟨rfl, hA1, hb1⟩
      go_wp2_with fail
      go_roundw
      case rel => exact ⟨k + 1, by omega, by go_num, hA1, hbw.trans hb1⟩
      case measure => simp [intOf]; omega
    · obtain rfl : k = nl := by omega
      have d1 : ¬ (k : Int) < k := by omega
      go_wp2_with fail
      rw [List.take_of_length_le (by rw [HNL.out]; exact Nat.le_refl _)] at hA
      have hA' : Blk wr (w.heap.size + 1) 26 (AddrC true (valG (L ++ nulls 0))) := by rw [show nulls 0 = [] from rfl, List.append_nil]; exact hA
      clear hA HL hA0 hlt d1 hk
      go_loopw [29] (fun i wr => ∃ j : Nat, (j : Int) ≤ 8 - k - nr ∧ i = .int .i64 j ∧ Blk wr (w.heap.size + 1) 26 (AddrC true (valG (L ++ nulls j))) ∧ Below (w.heap.size + 1) w0 wr) (fun i _ => 8 - (intOf i).toNat)
      case atStart => exact ⟨0, by omega, rfl, hA', hbw⟩
      case round =>
        clear hA' hbel hbw
        obtain ⟨j, hj, rfl, hA, hbw⟩ := hrel; have hbel := hbel0.trans (hbw.mono (Nat.le_succ _))
        by_cases hlt : (j : Int) < 8 - k - nr
        · have hT : valG (L ++ nulls j) * 65536 < 340282366920938463463374607431768211456 := valG_room (fun x hx => by
            rcases List.mem_append.1 hx with q | q
            · exact HLL.out x q
            · have := List.eq_of_mem_replicate q; omega) (by rw [List.length_append, HNL.out]; unfold nulls; rw [List.length_replicate]; omega)
          have hT2 : valG (L ++ nulls (j + 1)) = valG (L ++ nulls j) * 65536 + 0 := by rw [show nulls (j + 1) = nulls j ++ [0] from List.replicate_succ', ← List.append_assoc, valG_snoc]
          have HP := Lib.hid (put_c (w.heap.size + 1) (valG (L ++ nulls j)) 0 (w.heap.size + 1) _ hA hT (by omega) (Nat.le_refl _))
          rw [← hT2] at HP
          clear hT hT2
          go_wp2_with fail
          refine HP.out.mono ?_
          rintro e w1 ⟨rfl, hA1, hb1⟩
          go_wp2_with fail
          go_roundw
          case rel => exact ⟨j + 1, by omega, by go_num, hA1, hbw.trans hb1⟩
          case measure => simp [intOf]; omega
        · obtain rfl : j = 8 - (k + nr) := by omega
          have hA' : Blk wr (w.heap.size + 1) 26 (AddrC true (valG (L ++ nulls (8 - (k + nr)) ++ R.take 0))) := by rw [List.take_zero, List.append_nil]; exact hA
          have HN : Hid ((L ++ nulls (8 - (k + nr))).length + nr = 8) := Lib.hid (by rw [List.length_append, HNL.out]; unfold nulls; rw [List.length_replicate]; omega)
          have HG : Hid (∀ g ∈ L ++ nulls (8 - (k + nr)), g < 65536) := Lib.hid (fun x hx => by
            rcases List.mem_append.1 hx with q | q
            · exact HLL.out x q
            · have := List.eq_of_mem_replicate q; omega)
          have HJ := Lib.hid hj
          clear hA hj
          generalize hM : L ++ nulls (8 - (k + nr)) = M at *
          have HM := Lib.hid hM
          clear hM
          go_wp2_with fail
          go_loopw [36] (fun i wr => ∃ q : Nat, q ≤ nr ∧ i = .int .i64 q ∧ Blk wr (w.heap.size + 1) 26 (AddrC true (valG (M ++ R.take q))) ∧ Below (w.heap.size + 1) w0 wr) (fun i _ => nr - (intOf i).toNat)
          case atStart => exact ⟨0, by omega, rfl, hA', hbw⟩
          case round =>
            clear hA' hbel hbw
            obtain ⟨q, hq, rfl, hA, hbw⟩ := hrel; have hbel := hbel0.trans (hbw.mono (Nat.le_succ _))
            by_cases hlt : q < nr
            · have d1 : (q : Int) < nr := by omega
              obtain ⟨g, rfl, hg, hcs⟩ := HR.out (by omega)
              have hkR : q < R.length := by rw [HNR.out]; exact hlt
              have hcell := (hbel.cell (p := ⟨g, q, none⟩) hg).trans ((hcs q hlt).trans (u16V_at hkR))
              have hd := HRR.out R[q] (List.getElem_mem hkR)
              have hT : valG (M ++ R.take q) * 65536 < 340282366920938463463374607431768211456 := valG_room (fun x hx => by
                rcases List.mem_append.1 hx with z | z
                · exact HG.out x z
                · exact HRR.out x (List.mem_of_mem_take z)) (by have := HN.out; rw [List.length_append, List.length_take]; omega)
              have hT2 : valG (M ++ R.take (q + 1)) = valG (M ++ R.take q) * 65536 + R[q] := by rw [List.take_succ_eq_append_getElem hkR, ← List.append_assoc, valG_snoc]
              have HP := Lib.hid (put_c (w.heap.size + 1) (valG (M ++ R.take q)) R[q] (w.heap.size + 1) _ hA hT hd (Nat.le_refl _))
              rw [← hT2] at HP
              generalize R[q] = x at *
              clear hT hT2 hcs hkR
              go_wp2_with fail
              refine HP.out.mono ?_
              rintro e w1 ⟨rfl, hA1, hb1⟩
              go_wp2_with fail
              go_roundw
              case rel => exact ⟨q + 1, by omega, by go_num, hA1, hbw.trans hb1⟩
              case measure => simp [intOf]; omega
            · obtain rfl : q = nr := by omega
              have d1 : ¬ (q : Int) < q := by omega
              rw [List.take_of_length_le (by rw [HNR.out]; exact Nat.le_refl _)] at hA
              generalize hV : valG (M ++ R) = V at *
              have HV := Lib.hid hV
              clear hV
              obtain ⟨c0, c1, c2, _⟩ := blk_adr hA
              have hZ : Blk wr w.heap.size 26 (AddrC false 0) := hZ0.below hbw (Nat.lt_succ_self _)
              obtain ⟨e0, e1, e2, _⟩ := blk_adr hZ
              have z0 := hZ.frozen 0
              have z1 := hZ.frozen 1
              have z2 := hZ.frozen 2
              clear HR HNR HLL HRR HG HN HJ
              go_wp2_with fail
              have hv : AddrV true (valG (M ++ R)) = .agg #[.bool true, .int .u64 (hi V), .int .u64 (lo V)] := by rw [HV.out]; rfl
              refine bodyPost_ret (v := .agg #[.bool true, .int .u64 (hi V), .int .u64 (lo V)]) (results_cell_row (t := 26) Tryd.results37 _ _ w.heap.size _ (0, 0) _ rfl (((hZ.put 0 _).put 1 _).put 2 _) Tryd.underlying26 rfl (by kernel_rfl)) rfl ⟨by rw [← hv, ← HM.out, List.append_assoc], (by repeat (first | (with_reducible exact Below.refl _ _) | (with_reducible assumption) | (with_reducible refine bl_alloc ?_ _) | (with_reducible refine bl_drew ?_) | (with_reducible refine bl_drewN ?_ _) | (with_reducible refine bl_set ?_ (by first | (simp; done) | (simp; omega)) _) | (with_reducible refine bl_trans ?_ ‹_›)))⟩
end Go.Proofs.YtgdgklibilddgaaDoor
