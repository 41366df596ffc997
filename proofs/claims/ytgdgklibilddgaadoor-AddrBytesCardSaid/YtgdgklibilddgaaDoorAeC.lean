/- Addresses: the walks of two laws. -/
import Derived.Test.YtgdgklibilddgaaDoorAeB
import Derived.Test.YtgdgklibilddgaaDoorAdW
import Derived.Test.YtgdgklibilddgaaDoorAdU
namespace Go.Proofs.YtgdgklibilddgaaDoor
open Go.RowKit

theorem less_nums : ∀ (A B : List Nat), (∀ x ∈ A, x < 256) → (∀ x ∈ B, x < 256) → (Op.bytesLess (A.map UInt8.ofNat) (B.map UInt8.ofNat) = true ↔ A < B)
  | [], [], _, _ => by simp [Op.bytesLess]
  | [], y :: B, _, _ => by simp [Op.bytesLess]
  | x :: A, [], _, _ => by simp [Op.bytesLess]
  | x :: A, y :: B, hA, hB => by
    have ih := less_nums A B (fun k hk => hA k (by simp [hk])) (fun k hk => hB k (by simp [hk]))
    have hx := hA x (by simp)
    have hy := hB y (by simp)
    have e1 : (UInt8.ofNat x < UInt8.ofNat y) ↔ x < y := by
      rw [UInt8.lt_iff_toNat_lt, UInt8.toNat_ofNat', UInt8.toNat_ofNat']; omega
    have e2 : (UInt8.ofNat x = UInt8.ofNat y) ↔ x = y := by
      rw [← UInt8.toNat_inj, UInt8.toNat_ofNat', UInt8.toNat_ofNat']; omega
    simp only [List.map_cons, Op.bytesLess, List.cons_lt_cons_iff]
    rw [← ih]
    simp [e1, e2]
theorem bytes_fit {v : Bool} {a : Nat} (h : rightB v a = true) : a < 256 ^ byteN v := by
  unfold rightB at h
  have h := of_decide_eq_true h
  rw [byteN_w, Nat.pow_mul] at h
  exact h
theorem less_bytes {v : Bool} {a b : Nat} {S T : ByteArray} (ha : rightB v a = true) (hb : rightB v b = true) (hS : bts S = (bytesB (byteN v) a).map UInt8.ofNat) (hT : bts T = (bytesB (byteN v) b).map UInt8.ofNat) (h : a < b) :
    Op.bytesLess S.toList T.toList = true ∧ (S.toList == T.toList) = false := by
  have hA : ∀ x ∈ bytesB (byteN v) a, x < 256 := fun x hx => bytesB_lt hx
  have hB : ∀ x ∈ bytesB (byteN v) b, x < 256 := fun x hx => bytesB_lt hx
  have key : Op.bytesLess S.toList T.toList = true := by
    rw [Lib.toList_data, Lib.toList_data]
    show Op.bytesLess (bts S) (bts T) = true
    rw [hS, hT, less_nums _ _ hA hB, foldB_cmp _ _ (by rw [bytesB_len, bytesB_len]) hA hB, valB_bytes _ _ (bytes_fit ha), valB_bytes _ _ (bytes_fit hb)]
    exact h
  refine ⟨key, ?_⟩
  rw [beq_eq_false_iff_ne]
  intro e
  rw [← e] at key
  have : ∀ l : List UInt8, Op.bytesLess l l = false := by
    intro l
    induction l with
    | nil => rfl
    | cons x l ih => simp [Op.bytesLess, ih]
  rw [this] at key
  cases key
theorem less_self (l : List UInt8) : Op.bytesLess l l = false := by
  induction l with
  | nil => rfl
  | cons x l ih => simp [Op.bytesLess, ih]
set_option maxRecDepth 100000 in
set_option maxHeartbeats 800000 in
theorem addrSteps_walk (v : Bool) (a n : Nat) (w : World) (ha : a < 340282366920938463463374607431768211456) (hn : n < 340282366920938463463374607431768211456) (hG : Glob w) :
    Calls Tryd.prog 6 #[AddrV v a, numV n] w fun e w' => e = .returned (.bool true) ∧ Below w.heap.size w w' := by
  have HAW := Lib.hid (fun w hG => awake02_c w hG)
  have HP := Lib.hid (fun w => plus_c v a n w ha hn)
  by_cases hok : rightB v a = true ∧ (addF a n && rightB v (addN a n)) = true
  · obtain ⟨h1, h2⟩ := hok
    unfold plusV at HP
    rw [if_pos h1, if_pos h2] at HP
    have hsum : addN a n = a + n ∧ a + n < 340282366920938463463374607431768211456 ∧ rightB v (a + n) = true := by
      have h3 : addF a n = true := by revert h2; cases addF a n <;> simp
      have h4 : rightB v (addN a n) = true := by revert h2; cases rightB v (addN a n) <;> simp
      have h5 : a + n < 340282366920938463463374607431768211456 := of_decide_eq_true h3
      have h6 : addN a n = a + n := Nat.mod_eq_of_lt h5
      rw [h6] at h4
      exact ⟨h6, h5, h4⟩
    obtain ⟨hs, hb, hrb⟩ := hsum
    rw [hs] at HP
    obtain ⟨b, hbe⟩ : ∃ b, b = a + n := ⟨_, rfl⟩
    rw [← hbe] at HP hrb hb
    have HM := Lib.hid (fun w => minus_c v b v a w hb ha)
    have hmv : minusV v b v a = .tuple #[numV n, .int .i64 0] := by
      unfold minusV
      have e1 : subF b a = true := by unfold subF; exact decide_eq_true (by omega)
      have e2 : subN b a = n := by unfold subN; omega
      rw [hrb, h1, e1, e2]
      simp
    rw [hmv] at HM
    have HB1 := Lib.hid (fun w => bytes_c v a w ha h1)
    have HB2 := Lib.hid (fun w => bytes_c v b w hb hrb)
    have HC := Lib.hid (fun w => acmp_c v a v b w ha hb)
    have HBE := Lib.hid hbe
    clear hbe hmv hs
    rw [AddrV_eq, AddrV_eq] at *
    unfold AddrC numV at *
    go_enter Tryd.func6, Tryd.ntmps6
    go_wp2_with fail
    have hA : Blk ((w.alloc (Obj.cells #[.bool v, .int .u64 (hi a), .int .u64 (lo a)] 26)).alloc (Obj.cells #[.int .u64 (hi n), .int .u64 (lo n)] 24)) (w.heap.size) 26 (AddrC v a) := ((Blk.new' _ _ _ _ (by simp) : Blk (w.alloc (Obj.cells #[.bool v, .int .u64 (hi a), .int .u64 (lo a)] 26)) (w.heap.size) 26 (AddrC v a))).alloc _
    have hN : Blk ((w.alloc (Obj.cells #[.bool v, .int .u64 (hi a), .int .u64 (lo a)] 26)).alloc (Obj.cells #[.int .u64 (hi n), .int .u64 (lo n)] 24)) (w.heap.size + 1) 24 #[.int .u64 (hi n), .int .u64 (lo n)] := (Blk.new' _ _ _ _ (by simp) : Blk ((w.alloc (Obj.cells #[.bool v, .int .u64 (hi a), .int .u64 (lo a)] 26)).alloc (Obj.cells #[.int .u64 (hi n), .int .u64 (lo n)] 24)) (w.heap.size + 1) 24 #[.int .u64 (hi n), .int .u64 (lo n)])
    have hbel : Below w.heap.size w ((w.alloc (Obj.cells #[.bool v, .int .u64 (hi a), .int .u64 (lo a)] 26)).alloc (Obj.cells #[.int .u64 (hi n), .int .u64 (lo n)] 24)) := (by repeat (first | (with_reducible exact Below.refl _ _) | (with_reducible assumption) | (with_reducible refine bl_alloc ?_ _) | (with_reducible refine bl_drew ?_) | (with_reducible refine bl_drewN ?_ _) | (with_reducible refine bl_set ?_ (by first | (simp; done) | (simp; omega)) _) | (with_reducible refine bl_trans ?_ ‹_›)))
    replace hG := hG.after hbel
    have hsz : ((w.alloc (Obj.cells #[.bool v, .int .u64 (hi a), .int .u64 (lo a)] 26)).alloc (Obj.cells #[.int .u64 (hi n), .int .u64 (lo n)] 24)).heap.size = w.heap.size + 1 + 1 := by simp
    generalize (w.alloc (Obj.cells #[.bool v, .int .u64 (hi a), .int .u64 (lo a)] 26)).alloc (Obj.cells #[.int .u64 (hi n), .int .u64 (lo n)] 24) = w0 at *
    obtain ⟨gn, gnE⟩ : ∃ g, g = w.heap.size + 1 := ⟨_, rfl⟩
    rw [← gnE] at hN ⊢
    have hd1 : w.heap.size < gn := by omega
    clear hsz gnE
    with_reducible refine (HAW.out _ hG).mono ?_
    rintro e w1 ⟨rfl, hb⟩
    (try clear a0 a1 a2 az0 az1 az2 az3)
    replace hA := hA.after hb
    obtain ⟨a0, a1, a2, _⟩ := blk_adr hA
    have az0 := hA.frozen 0
    have az1 := hA.frozen 1
    have az2 := hA.frozen 2
    (try clear al al1 al2)
    have al := hA.lt
    have al1 := Nat.lt_succ_of_lt al
    have al2 := Nat.lt_succ_of_lt al1
    try simp only [Nat.succ_eq_add_one] at al1 al2
    (try clear n0 n1 nz0 nz1)
    replace hN := hN.after hb
    obtain ⟨n0, n1, _⟩ := blk_two hN
    have nz0 := hN.frozen 0
    have nz1 := hN.frozen 1
    (try clear nl nl1 nl2)
    have nl := hN.lt
    have nl1 := Nat.lt_succ_of_lt nl
    have nl2 := Nat.lt_succ_of_lt nl1
    try simp only [Nat.succ_eq_add_one] at nl1 nl2
    replace hG := hG.after hb
    replace hbel := bl_trans hbel hb
    clear hb
    go_wp2_with fail
    with_reducible refine (HP.out _).mono ?_
    rintro e w2 ⟨rfl, hb⟩
    (try clear a0 a1 a2 az0 az1 az2 az3)
    replace hA := hA.after hb
    obtain ⟨a0, a1, a2, _⟩ := blk_adr hA
    have az0 := hA.frozen 0
    have az1 := hA.frozen 1
    have az2 := hA.frozen 2
    (try clear al al1 al2)
    have al := hA.lt
    have al1 := Nat.lt_succ_of_lt al
    have al2 := Nat.lt_succ_of_lt al1
    try simp only [Nat.succ_eq_add_one] at al1 al2
    (try clear n0 n1 nz0 nz1)
    replace hN := hN.after hb
    obtain ⟨n0, n1, _⟩ := blk_two hN
    have nz0 := hN.frozen 0
    have nz1 := hN.frozen 1
    (try clear nl nl1 nl2)
    have nl := hN.lt
    have nl1 := Nat.lt_succ_of_lt nl
    have nl2 := Nat.lt_succ_of_lt nl1
    try simp only [Nat.succ_eq_add_one] at nl1 nl2
    replace hG := hG.after hb
    replace hbel := bl_trans hbel hb
    clear hb
    go_wp2_with fail
    with_reducible refine (HM.out _).mono ?_
    rintro e w4 ⟨rfl, hb4⟩
    have hB' : Blk w4 w2.heap.size 26 #[.bool v, .int .u64 (hi b), .int .u64 (lo b)] := (by repeat (first | (with_reducible assumption) | (with_reducible refine blk_fill (u := .int .u64 0) (v := .int .u64 0) ?_) | (with_reducible refine Blk.drew ?_) | (with_reducible refine Blk.new' _ _ _ _ (by first | (with_reducible rfl) | (simp; done))) | (with_reducible refine Blk.alloc ?_ _) | (with_reducible refine Blk.after ?_ ‹_›) | (with_reducible refine Blk.far ?_ (by first | (simp; done) | (simp; omega)) _)))
    have hB : Blk w4 w2.heap.size 26 (AddrC v b) := hB'
    have hbn : Below w2.heap.size w2 w4 := (by repeat (first | (with_reducible exact Below.refl _ _) | (with_reducible assumption) | (with_reducible refine bl_alloc ?_ _) | (with_reducible refine bl_drew ?_) | (with_reducible refine bl_drewN ?_ _) | (with_reducible refine bl_set ?_ (by first | (simp; done) | (simp; omega)) _) | (with_reducible refine bl_trans ?_ ‹_›)))
    replace hA := hA.after hbn
    replace hN := hN.after hbn
    replace hG := hG.after hbn
    have hgb : w.heap.size < w2.heap.size := al
    have hgc : gn < w2.heap.size := nl
    replace hbel := bl_trans hbel hbn
    clear hB' hb4 hbn a0 a1 a2 az0 az1 az2 n0 n1 nz0 nz1 al al1 al2 nl nl1 nl2
    obtain ⟨gb, hgbE⟩ : ∃ g, g = w2.heap.size := ⟨_, rfl⟩
    rw [← hgbE] at hB hgb hgc ⊢
    clear hgbE
    obtain ⟨a0, a1, a2, _⟩ := blk_adr hA
    have az0 := hA.frozen 0
    have az1 := hA.frozen 1
    have az2 := hA.frozen 2
    obtain ⟨b0, b1, b2, _⟩ := blk_adr hB
    have bz0 := hB.frozen 0
    have bz1 := hB.frozen 1
    have bz2 := hB.frozen 2
    obtain ⟨n0, n1, _⟩ := blk_two hN
    have nz0 := hN.frozen 0
    have nz1 := hN.frozen 1
    have al := hA.lt
    have bl := hB.lt
    have nl := hN.lt
    have al1 : w.heap.size < w4.heap.size + 1 := by omega
    have bl1 : gb < w4.heap.size + 1 := by omega
    have nl1 : gn < w4.heap.size + 1 := by omega
    go_wp2_with fail
    with_reducible refine (HB1.out _).mono ?_
    rintro e w5 ⟨rfl, hb⟩
    have hbn : Below w4.heap.size w4 w5 := (by repeat (first | (with_reducible exact Below.refl _ _) | (with_reducible assumption) | (with_reducible refine bl_alloc ?_ _) | (with_reducible refine bl_drew ?_) | (with_reducible refine bl_drewN ?_ _) | (with_reducible refine bl_set ?_ (by first | (simp; done) | (simp; omega)) _) | (with_reducible refine bl_trans ?_ ‹_›)))
    (try clear a0 a1 a2 az0 az1 az2 az3)
    replace hA := hA.after hbn
    obtain ⟨a0, a1, a2, _⟩ := blk_adr hA
    have az0 := hA.frozen 0
    have az1 := hA.frozen 1
    have az2 := hA.frozen 2
    (try clear al al1 al2)
    have al := hA.lt
    have al1 := Nat.lt_succ_of_lt al
    have al2 := Nat.lt_succ_of_lt al1
    try simp only [Nat.succ_eq_add_one] at al1 al2
    (try clear b0 b1 b2 bz0 bz1 bz2 bz3)
    replace hB := hB.after hbn
    obtain ⟨b0, b1, b2, _⟩ := blk_adr hB
    have bz0 := hB.frozen 0
    have bz1 := hB.frozen 1
    have bz2 := hB.frozen 2
    (try clear bl bl1 bl2)
    have bl := hB.lt
    have bl1 := Nat.lt_succ_of_lt bl
    have bl2 := Nat.lt_succ_of_lt bl1
    try simp only [Nat.succ_eq_add_one] at bl1 bl2
    replace hN := hN.after hbn
    replace hG := hG.after hbn
    replace hbel := bl_trans hbel hbn
    clear hb hbn
    go_wp2_with fail
    with_reducible refine (HB2.out _).mono ?_
    rintro e w6 ⟨rfl, hb⟩
    have hbn : Below w5.heap.size w5 w6 := (by repeat (first | (with_reducible exact Below.refl _ _) | (with_reducible assumption) | (with_reducible refine bl_alloc ?_ _) | (with_reducible refine bl_drew ?_) | (with_reducible refine bl_drewN ?_ _) | (with_reducible refine bl_set ?_ (by first | (simp; done) | (simp; omega)) _) | (with_reducible refine bl_trans ?_ ‹_›)))
    (try clear a0 a1 a2 az0 az1 az2 az3)
    replace hA := hA.after hbn
    obtain ⟨a0, a1, a2, _⟩ := blk_adr hA
    have az0 := hA.frozen 0
    have az1 := hA.frozen 1
    have az2 := hA.frozen 2
    (try clear al al1 al2)
    have al := hA.lt
    have al1 := Nat.lt_succ_of_lt al
    have al2 := Nat.lt_succ_of_lt al1
    try simp only [Nat.succ_eq_add_one] at al1 al2
    (try clear b0 b1 b2 bz0 bz1 bz2 bz3)
    replace hB := hB.after hbn
    obtain ⟨b0, b1, b2, _⟩ := blk_adr hB
    have bz0 := hB.frozen 0
    have bz1 := hB.frozen 1
    have bz2 := hB.frozen 2
    (try clear bl bl1 bl2)
    have bl := hB.lt
    have bl1 := Nat.lt_succ_of_lt bl
    have bl2 := Nat.lt_succ_of_lt bl1
    try simp only [Nat.succ_eq_add_one] at bl1 bl2
    replace hN := hN.after hbn
    replace hG := hG.after hbn
    replace hbel := bl_trans hbel hbn
    clear hb hbn
    have hS := bts_txt (bytesB (byteN v) a)
    have hT := bts_txt (bytesB (byteN v) b)
    obtain ⟨S, hSE⟩ : ∃ S, txt (bytesB (byteN v) a) = S := ⟨_, rfl⟩
    obtain ⟨T, hTE⟩ : ∃ S, txt (bytesB (byteN v) b) = S := ⟨_, rfl⟩
    rw [hSE] at hS ⊢
    rw [hTE] at hT ⊢
    have HSE := Lib.hid hSE
    have HTE := Lib.hid hTE
    have HS := Lib.hid hS
    have HT := Lib.hid hT
    clear hSE hTE hS hT
    go_wp2_with fail
    with_reducible refine (HC.out _).mono ?_
    rintro e w7 ⟨rfl, hb⟩
    have hbn : Below w6.heap.size w6 w7 := (by repeat (first | (with_reducible exact Below.refl _ _) | (with_reducible assumption) | (with_reducible refine bl_alloc ?_ _) | (with_reducible refine bl_drew ?_) | (with_reducible refine bl_drewN ?_ _) | (with_reducible refine bl_set ?_ (by first | (simp; done) | (simp; omega)) _) | (with_reducible refine bl_trans ?_ ‹_›)))
    replace hG := hG.after hbn
    replace hbel := bl_trans hbel hbn
    clear hb hbn
    by_cases hn0 : n = 0
    · have hc : cmpA v a v b = 0 := by
        rw [HBE.out, hn0]; unfold cmpA cmpN; simp
      rw [hc]
      have hTS : T = S := by rw [← HTE.out, ← HSE.out, HBE.out, hn0, Nat.add_zero]
      subst hTS
      have hl := less_self T.toList
      clear hc hn0
      go_wp2_with fail
      go_ret
      exact ⟨rfl, hbel⟩
    · have hc : cmpA v a v b = -1 := by
        rw [HBE.out]; unfold cmpA cmpN; rw [if_pos rfl, if_pos (by omega)]
      rw [hc]
      clear hc
      obtain ⟨hl, hne⟩ := less_bytes h1 hrb HS.out HT.out (by rw [HBE.out]; omega)
      have hne2 : ¬ S.toList = T.toList := by simpa using hne
      go_wp2_with fail
      go_ret
      exact ⟨rfl, hbel⟩
  · have hpv : plusV v a n = .tuple #[.agg #[.bool false, .int .u64 0, .int .u64 0], .int .i64 1] ∨ plusV v a n = .tuple #[.agg #[.bool false, .int .u64 0, .int .u64 0], .int .i64 11] := by
      unfold plusV
      by_cases h1 : rightB v a = true
      · rw [if_pos h1, if_neg (fun h2 => hok ⟨h1, h2⟩)]; exact .inr rfl
      · rw [if_neg h1]; exact .inl rfl
    clear hok
    rw [AddrV_eq] at *
    unfold AddrC numV at *
    rcases hpv with hpv | hpv
    all_goals
      rw [hpv] at HP
      clear hpv
      go_enter Tryd.func6, Tryd.ntmps6
      go_wp2_with fail
      have hA : Blk ((w.alloc (Obj.cells #[.bool v, .int .u64 (hi a), .int .u64 (lo a)] 26)).alloc (Obj.cells #[.int .u64 (hi n), .int .u64 (lo n)] 24)) (w.heap.size) 26 (AddrC v a) := ((Blk.new' _ _ _ _ (by simp) : Blk (w.alloc (Obj.cells #[.bool v, .int .u64 (hi a), .int .u64 (lo a)] 26)) (w.heap.size) 26 (AddrC v a))).alloc _
      have hN : Blk ((w.alloc (Obj.cells #[.bool v, .int .u64 (hi a), .int .u64 (lo a)] 26)).alloc (Obj.cells #[.int .u64 (hi n), .int .u64 (lo n)] 24)) (w.heap.size + 1) 24 #[.int .u64 (hi n), .int .u64 (lo n)] := (Blk.new' _ _ _ _ (by simp) : Blk ((w.alloc (Obj.cells #[.bool v, .int .u64 (hi a), .int .u64 (lo a)] 26)).alloc (Obj.cells #[.int .u64 (hi n), .int .u64 (lo n)] 24)) (w.heap.size + 1) 24 #[.int .u64 (hi n), .int .u64 (lo n)])
      have hbel : Below w.heap.size w ((w.alloc (Obj.cells #[.bool v, .int .u64 (hi a), .int .u64 (lo a)] 26)).alloc (Obj.cells #[.int .u64 (hi n), .int .u64 (lo n)] 24)) := (by repeat (first | (with_reducible exact Below.refl _ _) | (with_reducible assumption) | (with_reducible refine bl_alloc ?_ _) | (with_reducible refine bl_drew ?_) | (with_reducible refine bl_drewN ?_ _) | (with_reducible refine bl_set ?_ (by first | (simp; done) | (simp; omega)) _) | (with_reducible refine bl_trans ?_ ‹_›)))
      replace hG := hG.after hbel
      have hsz : ((w.alloc (Obj.cells #[.bool v, .int .u64 (hi a), .int .u64 (lo a)] 26)).alloc (Obj.cells #[.int .u64 (hi n), .int .u64 (lo n)] 24)).heap.size = w.heap.size + 1 + 1 := by simp
      generalize (w.alloc (Obj.cells #[.bool v, .int .u64 (hi a), .int .u64 (lo a)] 26)).alloc (Obj.cells #[.int .u64 (hi n), .int .u64 (lo n)] 24) = w0 at *
      obtain ⟨gn, gnE⟩ : ∃ g, g = w.heap.size + 1 := ⟨_, rfl⟩
      rw [← gnE] at hN ⊢
      have hd1 : w.heap.size < gn := by omega
      clear hsz gnE
      with_reducible refine (HAW.out _ hG).mono ?_
      rintro e w1 ⟨rfl, hb⟩
      (try clear a0 a1 a2 az0 az1 az2 az3)
      replace hA := hA.after hb
      obtain ⟨a0, a1, a2, _⟩ := blk_adr hA
      have az0 := hA.frozen 0
      have az1 := hA.frozen 1
      have az2 := hA.frozen 2
      (try clear al al1 al2)
      have al := hA.lt
      have al1 := Nat.lt_succ_of_lt al
      have al2 := Nat.lt_succ_of_lt al1
      try simp only [Nat.succ_eq_add_one] at al1 al2
      (try clear n0 n1 nz0 nz1)
      replace hN := hN.after hb
      obtain ⟨n0, n1, _⟩ := blk_two hN
      have nz0 := hN.frozen 0
      have nz1 := hN.frozen 1
      (try clear nl nl1 nl2)
      have nl := hN.lt
      have nl1 := Nat.lt_succ_of_lt nl
      have nl2 := Nat.lt_succ_of_lt nl1
      try simp only [Nat.succ_eq_add_one] at nl1 nl2
      replace hG := hG.after hb
      replace hbel := bl_trans hbel hb
      clear hb
      go_wp2_with fail
      with_reducible refine (HP.out _).mono ?_
      rintro e w2 ⟨rfl, hb⟩
      (try clear a0 a1 a2 az0 az1 az2 az3)
      replace hA := hA.after hb
      obtain ⟨a0, a1, a2, _⟩ := blk_adr hA
      have az0 := hA.frozen 0
      have az1 := hA.frozen 1
      have az2 := hA.frozen 2
      (try clear al al1 al2)
      have al := hA.lt
      have al1 := Nat.lt_succ_of_lt al
      have al2 := Nat.lt_succ_of_lt al1
      try simp only [Nat.succ_eq_add_one] at al1 al2
      (try clear n0 n1 nz0 nz1)
      replace hN := hN.after hb
      obtain ⟨n0, n1, _⟩ := blk_two hN
      have nz0 := hN.frozen 0
      have nz1 := hN.frozen 1
      (try clear nl nl1 nl2)
      have nl := hN.lt
      have nl1 := Nat.lt_succ_of_lt nl
      have nl2 := Nat.lt_succ_of_lt nl1
      try simp only [Nat.succ_eq_add_one] at nl1 nl2
      replace hG := hG.after hb
      replace hbel := bl_trans hbel hb
      clear hb
      go_wp2_with fail
      go_ret
      exact ⟨rfl, (by repeat (first | (with_reducible exact Below.refl _ _) | (with_reducible assumption) | (with_reducible refine bl_alloc ?_ _) | (with_reducible refine bl_drew ?_) | (with_reducible refine bl_drewN ?_ _) | (with_reducible refine bl_set ?_ (by first | (simp; done) | (simp; omega)) _) | (with_reducible refine bl_trans ?_ ‹_›)))⟩
end Go.Proofs.YtgdgklibilddgaaDoor
