/- The plain law of an address's text, I: four decimal numbers. -/
import Derived.Lib.Split
import Derived.Lib.ParseIntB
import Derived.Lib.ItoaNum
namespace Go.Proofs.YtgdgklibilddgaaDoor

/-! a text cut at a sign -/
def pieces (c : UInt8) : List UInt8 → List (List UInt8)
  | [] => [[]]
  | x :: r => if x = c then [] :: pieces c r else match pieces c r with
    | [] => [[x]]
    | p :: q => (x :: p) :: q
theorem pieces_ne (c : UInt8) : ∀ l, pieces c l ≠ []
  | [] => by simp [pieces]
  | x :: r => by
    unfold pieces
    split
    · simp
    · split <;> simp
theorem pieces_cons {c x : UInt8} {r : List UInt8} (h : x ≠ c) : ∃ p q, pieces c r = p :: q ∧ pieces c (x :: r) = (x :: p) :: q := by
  cases hp : pieces c r with
  | nil => exact absurd hp (pieces_ne c r)
  | cons p q => exact ⟨p, q, rfl, by rw [pieces, if_neg h, hp]⟩
theorem pieces_sep (c : UInt8) (r : List UInt8) : pieces c (c :: r) = [] :: pieces c r := by rw [pieces, if_pos rfl]
theorem pieces_plain {c : UInt8} : ∀ {l : List UInt8}, c ∉ l → pieces c l = [l]
  | [], _ => rfl
  | x :: r, h => by
    have h1 : x ≠ c := fun e => h (by simp [e])
    have h2 : c ∉ r := fun e => h (by simp [e])
    rw [pieces, if_neg h1, pieces_plain h2]
theorem pieces_first {c : UInt8} : ∀ {a r : List UInt8}, c ∉ a → pieces c (a ++ c :: r) = a :: pieces c r
  | [], r, _ => pieces_sep c r
  | x :: a, r, h => by
    have h1 : x ≠ c := fun e => h (by simp [e])
    have h2 : c ∉ a := fun e => h (by simp [e])
    rw [List.cons_append, pieces, if_neg h1, pieces_first h2]
theorem pieces_clean {c : UInt8} : ∀ {l p : List UInt8}, p ∈ pieces c l → c ∉ p
  | [], p, h => by simp [pieces] at h; subst h; simp
  | x :: r, p, h => by
    by_cases e : x = c
    · subst e
      rw [pieces_sep] at h
      rcases List.mem_cons.1 h with h | h
      · subst h; simp
      · exact pieces_clean h
    · obtain ⟨a, q, e1, e2⟩ := pieces_cons (r := r) e
      rw [e2] at h
      rcases List.mem_cons.1 h with h | h
      · subst h
        have := pieces_clean (c := c) (l := r) (p := a) (by rw [e1]; simp)
        simp only [List.mem_cons, not_or]
        exact ⟨fun k => e k.symm, this⟩
      · exact pieces_clean (l := r) (by rw [e1]; simp [h])
theorem pieces_len (c : UInt8) : ∀ l, (pieces c l).length = l.count c + 1
  | [] => rfl
  | x :: r => by
    by_cases e : x = c
    · subst e; rw [pieces_sep, List.length_cons, pieces_len x r]; simp
    · obtain ⟨a, q, e1, e2⟩ := pieces_cons (r := r) e
      have := pieces_len c r
      rw [e1] at this
      rw [e2, List.count_cons_of_ne e]; simpa using this
/-- the first sign: what is ahead of it and behind it -/
theorem index_one (c : UInt8) : ∀ l : List UInt8, (c ∉ l ∧ Lib.index l [c] = -1) ∨ (∃ a r, l = a ++ c :: r ∧ c ∉ a ∧ Lib.index l [c] = (a.length : Int))
  | [] => .inl ⟨by simp, rfl⟩
  | x :: l => by
    by_cases e : x = c
    · subst e
      refine .inr ⟨[], l, rfl, by simp, ?_⟩
      simp [Lib.index, List.isPrefixOf]
    · have hp : ([c] : List UInt8).isPrefixOf (x :: l) = false := by simp [List.isPrefixOf, Ne.symm e]
      rcases index_one c l with ⟨h1, h2⟩ | ⟨a, r, rfl, h1, h2⟩
      · refine .inl ⟨by simp [Ne.symm e, h1], ?_⟩
        rw [Lib.index, if_neg (by rw [hp]; simp), h2]; rfl
      · refine .inr ⟨x :: a, r, rfl, by simp [Ne.symm e, h1], ?_⟩
        rw [Lib.index, if_neg (by rw [hp]; simp), h2]
        have : ((a.length : Int) == -1) = false := beq_eq_false_iff_ne.2 (by omega)
        rw [this]; simp
theorem splitK_one (c : UInt8) : ∀ (k : Nat) (l : List UInt8), l.count c ≤ k → Lib.splitK [c] 0 k l = pieces c l
  | 0, l, h => by
    have : c ∉ l := by rw [← List.count_eq_zero]; omega
    rw [pieces_plain this]; rfl
  | k + 1, l, h => by
    rcases index_one c l with ⟨h1, h2⟩ | ⟨a, r, rfl, h1, h2⟩
    · rw [Lib.splitK, h2, pieces_plain h1]; rfl
    · have : ((a.length : Int) == -1) = false := beq_eq_false_iff_ne.2 (by omega)
      rw [Lib.splitK, h2, this, if_neg (by simp), pieces_first h1]
      have h3 : (a ++ c :: r).take ((a.length : Int).toNat + 0) = a := by simp
      have h4 : (a ++ c :: r).drop ((a.length : Int).toNat + [c].length) = r := by
        rw [Int.toNat_natCast, show [c].length = 1 from rfl, List.drop_append]
        simp
      rw [h3, h4, splitK_one c k r (by rw [List.count_append, List.count_cons_self] at h; omega)]
theorem count_one (c : UInt8) : ∀ (n : Nat) (l : List UInt8), l.length ≤ n → Lib.count l [c] = l.count c
  | n, l, hn => by
    rcases index_one c l with ⟨h1, h2⟩ | ⟨a, r, rfl, h1, h2⟩
    · rw [Lib.count_miss h2, List.count_eq_zero.2 h1]
    · rw [Lib.count_hit (by simp) h2]
      have h4 : (a ++ c :: r).drop (a.length + [c].length) = r := by
        rw [show [c].length = 1 from rfl, List.drop_append]; simp
      rw [h4, List.count_append, List.count_cons_self, List.count_eq_zero.2 h1]
      match n, hn with
      | 0, hn => simp at hn
      | n + 1, hn => rw [count_one c n r (by simp at hn; omega)]; omega
/-- strings.Split at one sign -/
theorem split_one (c : UInt8) (l : List UInt8) : Lib.split l [c] = pieces c l := by
  unfold Lib.split
  rw [count_one c l.length l (Nat.le_refl _)]
  exact splitK_one c _ l (Nat.le_refl _)

/-! a number below 256, digit by digit -/
def dig (c : UInt8) : Prop := 48 ≤ c.toNat ∧ c.toNat ≤ 57
instance (c : UInt8) : Decidable (dig c) := by unfold dig; infer_instance
/-- n: what stands ahead (none: nothing yet) -/
def decM : Option Nat → List UInt8 → Option Nat
  | n, [] => n
  | n, c :: r => if dig c ∧ n ≠ some 0 ∧ 10 * n.getD 0 + (c.toNat - 48) ≤ 255 then decM (some (10 * n.getD 0 + (c.toNat - 48))) r else none
/-- the number of a piece, if that is just the number's text -/
def dec8 (w : List UInt8) : Option Nat := decM none w
theorem ofNat_dig {c : UInt8} (h : dig c) : UInt8.ofNat (48 + (c.toNat - 48)) = c := by
  rw [show 48 + (c.toNat - 48) = c.toNat by unfold dig at h; omega]; simp
theorem decM_zero : ∀ {w k}, decM (some 0) w = some k → w = [] ∧ k = 0
  | [], k, h => by cases h; exact ⟨rfl, rfl⟩
  | c :: r, k, h => by simp [decM] at h
theorem decM_some : ∀ {w n k}, 0 < n → n ≤ 255 → decM (some n) w = some k → k ≤ 255 ∧ Lib.decDigits k = Lib.decDigits n ++ w
  | [], n, k, hn, hn', h => by cases h; exact ⟨hn', by simp⟩
  | c :: r, n, k, hn, hn', h => by
    rw [decM] at h
    split at h
    · rename_i hc
      obtain ⟨h1, h2, h3⟩ := hc
      simp only [Option.getD_some] at h h3
      obtain ⟨h4, h5⟩ := decM_some (by omega) h3 h
      refine ⟨h4, ?_⟩
      have h1' := h1
      unfold dig at h1'
      rw [h5, Lib.decDigits.eq_def (10 * n + _), dif_neg (by omega), show (10 * n + (c.toNat - 48)) / 10 = n by omega, show (10 * n + (c.toNat - 48)) % 10 = c.toNat - 48 by omega, ofNat_dig h1, List.append_assoc]; rfl
    · cases h
theorem dec8_text {w k} (h : dec8 w = some k) : k ≤ 255 ∧ Lib.decDigits k = w := by
  unfold dec8 at h
  match w, h with
  | [], h => cases h
  | c :: r, h =>
    rw [decM] at h
    split at h
    · rename_i hc
      obtain ⟨h1, h2, h3⟩ := hc
      simp only [Option.getD_none, Nat.mul_zero, Nat.zero_add] at h h3
      have h1' := h1
      unfold dig at h1'
      have hd : Lib.decDigits (c.toNat - 48) = [c] := by rw [Lib.decDigits.eq_def, dif_pos (by omega), ofNat_dig h1]
      by_cases hz : c.toNat - 48 = 0
      · rw [hz] at h hd
        obtain ⟨e1, e2⟩ := decM_zero h
        subst e1 e2
        exact ⟨by omega, hd⟩
      · obtain ⟨e1, e2⟩ := decM_some (by omega) h3 h
        exact ⟨e1, by rw [e2, hd]; rfl⟩
    · cases h
theorem dec8_all : ∀ k, k < 256 → dec8 (Lib.decDigits k) = some k := by decide +kernel
theorem dec8_iff {w k} : dec8 w = some k ↔ k ≤ 255 ∧ Lib.decDigits k = w :=
  ⟨dec8_text, fun ⟨h1, h2⟩ => by rw [← h2]; exact dec8_all k (by omega)⟩
theorem parse_all : ∀ k, k < 256 → Lib.parseUintB 8 (Lib.decDigits k) = .ok k := by decide +kernel
/-- what the reading of a piece answers: the number, or nothing -/
theorem dec8_read (w : List UInt8) : (∃ k, k < 256 ∧ Lib.parseUintB 8 w = .ok k ∧ Lib.decDigits k = w ∧ dec8 w = some k) ∨ (∃ k, Lib.parseUintB 8 w = .ok k ∧ k < 256 ∧ Lib.decDigits k ≠ w ∧ dec8 w = none) ∨ (Lib.parseUintB 8 w = Lib.parseUintB 8 [] ∧ dec8 w = none) ∨ (Lib.parseUintB 8 w = .range ∧ dec8 w = none) := by
  have key : ∀ k, dec8 w = some k → Lib.parseUintB 8 w = .ok k := fun k h => by
    obtain ⟨h1, h2⟩ := dec8_text h
    rw [← h2]; exact parse_all k (by omega)
  cases hd : dec8 w with
  | some k =>
    obtain ⟨h1, h2⟩ := dec8_text hd
    exact .inl ⟨k, by omega, key k hd, h2, rfl⟩
  | none =>
    rcases hp : Lib.parseUintB 8 w with u | _ | _
    · have hu : u < 256 := by
        unfold Lib.parseUintB at hp
        split at hp
        · cases hp
        · have : ∀ (l : List UInt8) (acc u : Nat), acc ≤ 255 → Lib.parseUintM 255 acc l = .ok u → u ≤ 255 := by
            intro l
            induction l with
            | nil => intro acc u ha h; simp only [Lib.parseUintM] at h; cases h; exact ha
            | cons c r ih =>
              intro acc u ha h
              simp only [Lib.parseUintM] at h
              split at h
              · split at h
                · cases h
                · split at h
                  · cases h
                  · exact ih _ u (by omega) h
              · cases h
          have := this w 0 u (by omega) hp
          omega
      refine .inr (.inl ⟨u, rfl, hu, fun e => ?_, rfl⟩)
      have := dec8_all u hu
      rw [e, hd] at this; cases this
    · exact .inr (.inr (.inl ⟨rfl, rfl⟩))
    · exact .inr (.inr (.inr ⟨rfl, rfl⟩))

/-! four of them -/
def four (l : List (List UInt8)) : Option (List Nat) := if l.length = 4 then l.mapM dec8 else none
/-- the reference's way through a text: n: the piece's number so far, out: those before -/
def refFour : Option Nat → List Nat → List UInt8 → Option (List Nat)
  | n, out, [] => match n with | none => none | some n => if out.length = 3 then some (out ++ [n]) else none
  | n, out, c :: r => if c = 46 then (match n with | none => none | some n => if out.length = 4 then none else refFour none (out ++ [n]) r)
    else if dig c ∧ n ≠ some 0 ∧ 10 * n.getD 0 + (c.toNat - 48) ≤ 255 then refFour (some (10 * n.getD 0 + (c.toNat - 48))) out r else none
theorem mapM_cons8 (p : List UInt8) (q : List (List UInt8)) : (p :: q).mapM dec8 = match dec8 p with | none => none | some k => (q.mapM dec8).map (k :: ·) := by
  rw [List.mapM_cons]
  cases dec8 p with
  | none => rfl
  | some k => cases hq : q.mapM dec8 <;> simp [hq]
theorem refFour_nil (n : Option Nat) (out : List Nat) : refFour n out [] = match n with | none => none | some n => if out.length = 3 then some (out ++ [n]) else none := by rw [refFour.eq_def]
theorem refFour_cons (n : Option Nat) (out : List Nat) (c : UInt8) (r : List UInt8) : refFour n out (c :: r) = if c = 46 then (match n with | none => none | some n => if out.length = 4 then none else refFour none (out ++ [n]) r)
    else if dig c ∧ n ≠ some 0 ∧ 10 * n.getD 0 + (c.toNat - 48) ≤ 255 then refFour (some (10 * n.getD 0 + (c.toNat - 48))) out r else none := by rw [refFour.eq_def]
theorem refFour_eq : ∀ (l : List UInt8) (n : Option Nat) (out : List Nat), out.length ≤ 4 →
    refFour n out l = match pieces 46 l with
      | [] => none
      | p :: q => if out.length + 1 + q.length = 4 then (match decM n p with | none => none | some k => (q.mapM dec8).map fun t => out ++ k :: t) else none
  | [], n, out, _ => by
    rw [refFour_nil]
    simp only [pieces]
    cases n with
    | none => simp [decM]
    | some n =>
      simp only [decM, List.length_nil, List.mapM_nil]
      by_cases h : out.length = 3
      · rw [if_pos h, if_pos (by omega)]; rfl
      · rw [if_neg h, if_neg (by omega)]
  | c :: r, n, out, ho => by
    rw [refFour_cons]
    by_cases e : c = 46
    · subst e
      rw [if_pos rfl, pieces_sep]
      cases n with
      | none => simp [decM]
      | some n =>
        simp only [decM]
        by_cases h4 : out.length = 4
        · rw [if_pos h4, if_neg (by omega)]
        · rw [if_neg h4, refFour_eq r none (out ++ [n]) (by simp; omega)]
          cases hp : pieces 46 r with
          | nil => exact absurd hp (pieces_ne 46 r)
          | cons p q =>
            simp only [List.length_append, List.length_cons, List.length_nil]
            by_cases h : out.length + 1 + (q.length + 1) = 4
            · rw [if_pos (by omega), if_pos h, mapM_cons8]
              show (match dec8 p with | none => none | some k => _) = _
              cases dec8 p with
              | none => rfl
              | some k => simp [Option.map_map, Function.comp_def]
            · rw [if_neg (by omega), if_neg h]
    · obtain ⟨p, q, e1, e2⟩ := pieces_cons (r := r) e
      rw [if_neg e, e2]
      simp only [decM]
      by_cases h : dig c ∧ n ≠ some 0 ∧ 10 * n.getD 0 + (c.toNat - 48) ≤ 255
      · rw [if_pos h, if_pos h, refFour_eq r _ out ho, e1]
      · rw [if_neg h, if_neg h]; split <;> rfl
/-- the reference reads what the pieces tell -/
theorem refFour_four (l : List UInt8) : refFour none [] l = four (pieces 46 l) := by
  rw [refFour_eq l none [] (by simp)]
  unfold four
  cases hp : pieces 46 l with
  | nil => exact absurd hp (pieces_ne 46 l)
  | cons p q =>
    simp only [List.length_nil, List.length_cons]
    by_cases h : q.length + 1 = 4
    · rw [if_pos (by omega), if_pos h, mapM_cons8]
      show (match dec8 p with | none => none | some k => _) = _
      cases dec8 p <;> simp
    · rw [if_neg (by omega), if_neg h]
theorem mapM8_lt : ∀ {l : List (List UInt8)} {t : List Nat}, l.mapM dec8 = some t → t.length = l.length ∧ ∀ k ∈ t, k ≤ 255
  | [], t, h => by simp at h; subst h; simp
  | p :: q, t, h => by
    rw [mapM_cons8] at h
    cases hd : dec8 p with
    | none => simp [hd] at h
    | some k =>
      rw [hd] at h
      simp only [Option.map_eq_some_iff] at h
      obtain ⟨t', h', rfl⟩ := h
      obtain ⟨e1, e2⟩ := mapM8_lt h'
      refine ⟨by simp [e1], fun j hj => ?_⟩
      rcases List.mem_cons.1 hj with hj | hj
      · subst hj; exact (dec8_text hd).1
      · exact e2 j hj
theorem four_lt {l : List (List UInt8)} {t : List Nat} (h : four l = some t) : t.length = 4 ∧ ∀ k ∈ t, k ≤ 255 := by
  unfold four at h
  split at h
  · rename_i hl
    obtain ⟨e1, e2⟩ := mapM8_lt h
    exact ⟨by omega, e2⟩
  · cases h
end Go.Proofs.YtgdgklibilddgaaDoor
