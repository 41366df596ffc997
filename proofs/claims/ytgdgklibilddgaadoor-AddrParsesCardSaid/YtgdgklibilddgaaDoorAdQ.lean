/- The plain law of an address's text, II: groups, and what the reference makes of them. -/
import Derived.Test.YtgdgklibilddgaaDoorAdP
namespace Go.Proofs.YtgdgklibilddgaaDoor

def hexV (c : UInt8) : Option Nat := if 48 ≤ c.toNat ∧ c.toNat ≤ 57 then some (c.toNat - 48) else if 97 ≤ c.toNat ∧ c.toNat ≤ 102 then some (c.toNat - 87) else if 65 ≤ c.toNat ∧ c.toNat ≤ 70 then some (c.toNat - 55) else none
/-- the number of hexadecimal digits behind what stands ahead -/
def hexM : Nat → List UInt8 → Option Nat
  | n, [] => some n
  | n, c :: r => match hexV c with | none => none | some d => hexM (16 * n + d) r
def hex16 (w : List UInt8) : Option Nat := if w = [] ∨ 4 < w.length then none else hexM 0 w
theorem hexV_lt {c : UInt8} {d : Nat} (h : hexV c = some d) : d < 16 := by
  unfold hexV at h
  split at h
  · cases h; omega
  · split at h
    · cases h; omega
    · split at h
      · cases h; omega
      · cases h
theorem hexM_lt : ∀ {w : List UInt8} {n g : Nat}, hexM n w = some g → g < (n + 1) * 16 ^ w.length
  | [], n, g, h => by cases h; simp
  | c :: r, n, g, h => by
    rw [hexM] at h
    cases hd : hexV c with
    | none => rw [hd] at h; cases h
    | some d =>
      rw [hd] at h
      have h1 := hexM_lt h
      have h2 := hexV_lt hd
      rw [List.length_cons, Nat.pow_succ, Nat.mul_comm (16 ^ r.length) 16, ← Nat.mul_assoc]
      exact Nat.lt_of_lt_of_le h1 (Nat.mul_le_mul_right _ (by omega))
theorem hex16_lt {w : List UInt8} {g : Nat} (h : hex16 w = some g) : g < 65536 := by
  unfold hex16 at h
  split at h
  · cases h
  · have h1 := hexM_lt h
    have h2 : 16 ^ w.length ≤ 16 ^ 4 := Nat.pow_le_pow_right (by omega) (by simp at *; omega)
    omega
theorem hex16_nil : hex16 [] = none := rfl
theorem hexM_bad {c : UInt8} (hc : hexV c = none) : ∀ {w : List UInt8} (n), c ∈ w → hexM n w = none
  | [], n, h => by simp at h
  | x :: r, n, h => by
    rw [hexM]
    rcases List.mem_cons.1 h with h | h
    · subst h; rw [hc]
    · cases hexV x with
      | none => rfl
      | some d => exact hexM_bad hc _ h
theorem hex16_dot {w : List UInt8} (h : (46 : UInt8) ∈ w) : hex16 w = none := by
  unfold hex16
  split
  · rfl
  · exact hexM_bad (by decide) 0 h

/-- two groups of four bytes -/
def grp : List Nat → List Nat
  | [a, b, c, d] => [256 * a + b, 256 * c + d]
  | _ => []
def sideP (last : Bool) : List (List UInt8) → Option (List Nat)
  | [] => some []
  | w :: q => if last = true ∧ q = [] ∧ (46 : UInt8) ∈ w then (four (pieces 46 w)).map grp else match hex16 w with | none => none | some g => (sideP last q).map (g :: ·)
def side (last : Bool) (s : List UInt8) : Option (List Nat) := if s = [] then some [] else sideP last (pieces 58 s)
/-- the number of groups, of bytes -/
def valG (l : List Nat) : Nat := l.foldl (fun a g => 65536 * a + g) 0
def valB (l : List Nat) : Nat := l.foldl (fun a b => 256 * a + b) 0
def nulls (n : Nat) : List Nat := List.replicate n 0

/-- cut at the first two colons -/
def cutL : List UInt8 → List UInt8 × List UInt8 × Bool
  | [] => ([], [], false)
  | x :: r => if [58, 58].isPrefixOf (x :: r) then ([], r.drop 1, true) else if (cutL r).2.2 then (x :: (cutL r).1, (cutL r).2.1, true) else (x :: r, [], false)
def parseA (s : List UInt8) : Option (Bool × Nat) :=
  if (58 : UInt8) ∈ s then
    match side (!(cutL s).2.2) (cutL s).1, side true (cutL s).2.1 with
    | some l, some r => if ((cutL s).2.2 = true ∧ l.length + r.length ≤ 7) ∨ ((cutL s).2.2 = false ∧ l.length + r.length = 8) then some (true, valG (l ++ nulls (8 - l.length - r.length) ++ r)) else none
    | _, _ => none
  else (four (pieces 46 s)).map fun t => (false, valB t)

theorem index_cut : ∀ s : List UInt8, ((cutL s).2.2 = false → Lib.index s [58, 58] = -1 ∧ (cutL s).1 = s ∧ (cutL s).2.1 = []) ∧
    ((cutL s).2.2 = true → Lib.index s [58, 58] = ((cutL s).1.length : Int) ∧ s = (cutL s).1 ++ 58 :: 58 :: (cutL s).2.1)
  | [] => ⟨fun _ => ⟨rfl, rfl, rfl⟩, fun h => by cases h⟩
  | x :: r => by
    rw [cutL, Lib.index]
    by_cases hp : [58, 58].isPrefixOf (x :: r) = true
    · simp only [hp, if_true]
      refine ⟨fun h => by simp at h, fun _ => ⟨by simp, ?_⟩⟩
      match r, hp with
      | [], hp => simp [List.isPrefixOf] at hp
      | y :: r, hp =>
        simp [List.isPrefixOf] at hp
        obtain ⟨rfl, rfl⟩ := hp
        simp
    · have hp' : [58, 58].isPrefixOf (x :: r) = false := Bool.eq_false_iff.2 hp
      obtain ⟨i1, i2⟩ := index_cut r
      simp only [hp', if_false, Bool.false_eq_true]
      cases hc : (cutL r).2.2 with
      | false =>
        obtain ⟨a1, a2, a3⟩ := i1 hc
        simp [a1]
      | true =>
        obtain ⟨a1, a2⟩ := i2 hc
        simp only [if_true]
        refine ⟨fun h => by simp at h, fun _ => ⟨?_, by rw [List.cons_append, ← a2]⟩⟩
        rw [a1]
        have : (((cutL r).1.length : Int) == -1) = false := beq_eq_false_iff_ne.2 (by omega)
        rw [this]; simp
theorem cut_eq (s : List UInt8) : Lib.cut s [58, 58] = cutL s := by
  obtain ⟨i1, i2⟩ := index_cut s
  unfold Lib.cut
  cases hc : (cutL s).2.2 with
  | false =>
    obtain ⟨a1, a2, a3⟩ := i1 hc
    rw [a1, if_neg (by omega)]
    exact Prod.ext a2.symm (Prod.ext a3.symm hc.symm)
  | true =>
    obtain ⟨a1, a2⟩ := i2 hc
    rw [a1, if_pos (by omega), Int.toNat_natCast]
    refine Prod.ext ?_ (Prod.ext ?_ hc.symm)
    · have : s.take (cutL s).1.length = ((cutL s).1 ++ 58 :: 58 :: (cutL s).2.1).take (cutL s).1.length := by rw [← a2]
      exact this.trans (by simp)
    · have : s.drop ((cutL s).1.length + 2) = ((cutL s).1 ++ 58 :: 58 :: (cutL s).2.1).drop ((cutL s).1.length + 2) := by rw [← a2]
      exact this.trans (by rw [List.drop_append]; simp)

/-- the same of the pieces: an empty one between two others -/
def cutP : List (List UInt8) → List (List UInt8) × Option (List (List UInt8))
  | [] => ([], none)
  | p :: q => match q with
    | [] :: c :: q' => ([p], some (c :: q'))
    | q => (p :: (cutP q).1, (cutP q).2)
theorem cutP_hit (p c : List UInt8) (q : List (List UInt8)) : cutP (p :: [] :: c :: q) = ([p], some (c :: q)) := by rw [cutP]
theorem cutP_one (p : List UInt8) : cutP [p] = ([p], none) := by simp [cutP]
theorem cutP_two (p : List UInt8) : cutP [p, []] = ([p, []], none) := by simp [cutP]
theorem cutP_go (p a : List UInt8) (q : List (List UInt8)) (ha : a ≠ []) : cutP (p :: a :: q) = (p :: (cutP (a :: q)).1, (cutP (a :: q)).2) := by
  match a, ha with
  | x :: a, _ => rw [cutP]; intro c q' h; cases h
/-- the first piece may be any other -/
theorem cutP_head (p p' : List UInt8) (q : List (List UInt8)) : ∃ l, (cutP (p :: q)).1 = p :: l ∧ (cutP (p' :: q)).1 = p' :: l ∧ (cutP (p :: q)).2 = (cutP (p' :: q)).2 := by
  match q with
  | [] => exact ⟨[], by rw [cutP_one], by rw [cutP_one], by rw [cutP_one, cutP_one]⟩
  | [[]] => exact ⟨[[]], by rw [cutP_two], by rw [cutP_two], by rw [cutP_two, cutP_two]⟩
  | [] :: c :: q => exact ⟨[], by rw [cutP_hit], by rw [cutP_hit], by rw [cutP_hit, cutP_hit]⟩
  | (x :: a) :: q => exact ⟨(cutP ((x :: a) :: q)).1, by rw [cutP_go _ _ _ (by simp)], by rw [cutP_go _ _ _ (by simp)], by rw [cutP_go _ _ _ (by simp), cutP_go _ _ _ (by simp)]⟩
theorem pieces_form (c : UInt8) (l : List UInt8) : ∃ p q, pieces c l = p :: q := by
  cases h : pieces c l with
  | nil => exact absurd h (pieces_ne c l)
  | cons p q => exact ⟨p, q, rfl⟩
theorem pieces_empty {c : UInt8} {l : List UInt8} {q : List (List UInt8)} (h : pieces c l = [] :: q) : (l = [] ∧ q = []) ∨ ∃ r, l = c :: r ∧ q = pieces c r := by
  match l with
  | [] => simp [pieces] at h; exact .inl ⟨rfl, h⟩
  | x :: r =>
    by_cases e : x = c
    · subst e; rw [pieces_sep] at h; injection h with _ h; exact .inr ⟨r, rfl, h.symm⟩
    · obtain ⟨p, q', _, e2⟩ := pieces_cons (r := r) e
      rw [e2] at h; injection h with h _; cases h
theorem cut_pieces : ∀ s : List UInt8, ((cutL s).2.2 = false → cutP (pieces 58 s) = (pieces 58 s, none)) ∧
    ((cutL s).2.2 = true → cutP (pieces 58 s) = (pieces 58 (cutL s).1, some (pieces 58 (cutL s).2.1)))
  | [] => ⟨fun _ => rfl, fun h => by cases h⟩
  | x :: r => by
    obtain ⟨i1, i2⟩ := cut_pieces r
    obtain ⟨p, q, hp⟩ := pieces_form 58 r
    by_cases e : x = 58
    · subst e
      rw [pieces_sep]
      match hr : r, i1, i2, hp with
      | [], i1, i2, hp => exact ⟨fun _ => by simp [pieces, cutP], fun h => by simp [cutL, List.isPrefixOf] at h⟩
      | y :: r', i1, i2, hp =>
        by_cases ey : y = 58
        · subst ey
          have hc : cutL (58 :: 58 :: r') = ([], r', true) := by simp [cutL, List.isPrefixOf]
          rw [hc]
          refine ⟨fun h => (by cases h), fun _ => ?_⟩
          rw [pieces_sep]
          obtain ⟨c, q', hq⟩ := pieces_form 58 r'
          rw [hq, cutP_hit]; rfl
        · have hp0 : [58, 58].isPrefixOf ((58 : UInt8) :: y :: r') = false := by simp [List.isPrefixOf, Ne.symm ey]
          obtain ⟨a, q', e1, e2⟩ := pieces_cons (r := r') ey
          rw [e2] at i1 i2 ⊢
          rw [cutP_go _ _ _ (by simp)]
          generalize hC : cutL (y :: r') = C at *
          have hC2 : cutL (58 :: y :: r') = if C.2.2 then (58 :: C.1, C.2.1, true) else (58 :: y :: r', [], false) := by rw [cutL, hp0, hC]; rfl
          rw [hC2]
          cases hb : C.2.2 with
          | false =>
            simp only [Bool.false_eq_true, if_false]
            refine ⟨fun _ => by rw [i1 hb], fun h => (by cases h)⟩
          | true =>
            simp only [if_true]
            refine ⟨fun h => (by cases h), fun _ => by rw [i2 hb, pieces_sep]⟩
    · have hp0 : [58, 58].isPrefixOf (x :: r) = false := by simp [List.isPrefixOf, Ne.symm e]
      rw [hp] at i1 i2
      obtain ⟨p', q', e1, e2⟩ := pieces_cons (r := r) e
      rw [hp] at e1
      injection e1 with e1 e1'
      subst e1 e1'
      rw [e2]
      obtain ⟨l, h1, h2, h3⟩ := cutP_head p (x :: p) q
      have hC2 : cutL (x :: r) = if (cutL r).2.2 then (x :: (cutL r).1, (cutL r).2.1, true) else (x :: r, [], false) := by rw [cutL, hp0]; rfl
      rw [hC2]
      cases hb : (cutL r).2.2 with
      | false =>
        simp only [Bool.false_eq_true, if_false]
        refine ⟨fun _ => ?_, fun h => by cases h⟩
        have h4 := i1 hb
        rw [h4] at h1 h3
        injection h1 with _ h1
        refine Prod.ext (by rw [h2, ← h1]) h3.symm
      | true =>
        simp only [if_true]
        refine ⟨fun h => (by cases h), fun _ => ?_⟩
        have h4 := i2 hb
        rw [h4] at h1 h3
        refine Prod.ext ?_ h3.symm
        rw [h2]
        obtain ⟨p2, q2, f1, f2⟩ := pieces_cons (r := (cutL r).1) e
        rw [f2]
        simp only at h1
        rw [f1] at h1
        injection h1 with g1 g2
        rw [g1, g2]

/-! the reference's way through the pieces -/
def fin (G : List Nat) : Option Nat → Option (Bool × Nat)
  | none => if G.length = 8 then some (true, valG G) else none
  | some j => if G.length ≤ 7 then some (true, valG (G.take j ++ nulls (8 - G.length) ++ G.drop j)) else none
def refP : List (List UInt8) → List Nat → Option Nat → Option (Bool × Nat)
  | [], _, _ => none
  | p :: q, G, gap => if (46 : UInt8) ∈ p then (if q = [] then (match four (pieces 46 p) with | none => none | some t => fin (G ++ grp t) gap) else none)
    else match hex16 p with
      | none => none
      | some g => if 8 ≤ G.length then none else match q with
        | [] => fin (G ++ [g]) gap
        | [[]] => none
        | [] :: c :: q' => if gap.isSome then none else if c = [] ∧ q' = [] then fin (G ++ [g]) (some (G.length + 1)) else refP (c :: q') (G ++ [g]) (some (G.length + 1))
        | (x :: a) :: q' => refP ((x :: a) :: q') (G ++ [g]) gap
def refA (s : List UInt8) : Option (Bool × Nat) :=
  if [58, 58].isPrefixOf s then (if s.drop 2 = [] then fin [] (some 0) else refP (pieces 58 (s.drop 2)) [] (some 0)) else refP (pieces 58 s) [] none

theorem refP_gap : ∀ (ps : List (List UInt8)) (G : List Nat) (j : Nat), ps ≠ [] → j ≤ G.length →
    refP ps G (some j) = match sideP true ps with
      | none => none
      | some r => if G.length + r.length ≤ 7 then some (true, valG (G.take j ++ nulls (8 - G.length - r.length) ++ (G.drop j ++ r))) else none
  | [], _, _, h, _ => absurd rfl h
  | p :: q, G, j, _, hj => by
    rw [refP, sideP]
    by_cases hd : (46 : UInt8) ∈ p
    · rw [if_pos hd]
      by_cases hq : q = []
      · rw [if_pos hq, if_pos ⟨rfl, hq, hd⟩]
        cases four (pieces 46 p) with
        | none => rfl
        | some t =>
          simp only [Option.map_some, fin, List.length_append]
          by_cases h7 : G.length + (grp t).length ≤ 7
          · rw [if_pos h7, if_pos h7, List.take_append_of_le_length hj, List.drop_append_of_le_length hj, Nat.sub_sub]
          · rw [if_neg h7, if_neg h7]
      · rw [if_neg hq, if_neg (fun h => hq h.2.1), hex16_dot hd]
    · rw [if_neg hd, if_neg (fun h => hd h.2.2)]
      cases hex16 p with
      | none => rfl
      | some g =>
        by_cases h8 : 8 ≤ G.length
        · simp only [h8, if_true]
          cases sideP true q with
          | none => rfl
          | some r => simp only [Option.map_some, List.length_cons]; rw [if_neg (by omega)]
        · simp only [h8, if_false]
          match q with
          | [] =>
            simp only [sideP, Option.map_some, fin, List.length_append, List.length_cons, List.length_nil]
            by_cases h7 : G.length + (0 + 1) ≤ 7
            · rw [if_pos h7, if_pos h7, List.take_append_of_le_length hj, List.drop_append_of_le_length hj, Nat.sub_sub]
            · rw [if_neg h7, if_neg h7]
          | [[]] => simp [sideP, hex16_nil]
          | [] :: c :: q' => simp [sideP, hex16_nil]
          | (x :: a) :: q' =>
            show refP ((x :: a) :: q') (G ++ [g]) (some j) = _
            rw [refP_gap ((x :: a) :: q') (G ++ [g]) j (by simp) (by simp; omega)]
            cases sideP true ((x :: a) :: q') with
            | none => rfl
            | some r =>
              simp only [Option.map_some, List.length_append, List.length_cons, List.length_nil]
              by_cases h7 : G.length + (r.length + 1) ≤ 7
              · rw [if_pos h7, if_pos (by omega), List.take_append_of_le_length hj, List.drop_append_of_le_length hj, List.append_assoc (G.drop j) [g] r, show 8 - (G.length + (0 + 1)) - r.length = 8 - G.length - (r.length + 1) by omega]; rfl
              · rw [if_neg h7, if_neg (by omega)]
/-- behind the cut: nothing, or pieces -/
def sideQ (ps : List (List UInt8)) : Option (List Nat) := if ps = [[]] then some [] else sideP true ps
def whole (G : List Nat) : List (List UInt8) × Option (List (List UInt8)) → Option (Bool × Nat)
  | (l, none) => match sideP true l with | none => none | some x => if G.length + x.length = 8 then some (true, valG (G ++ x)) else none
  | (l, some r) => match sideP false l, sideQ r with
    | some x, some y => if G.length + x.length + y.length ≤ 7 then some (true, valG (G ++ x ++ nulls (8 - G.length - x.length - y.length) ++ y)) else none
    | _, _ => none
theorem whole_cons {G : List Nat} {g : Nat} {p : List UInt8} (hd : (46 : UInt8) ∉ p) (hg : hex16 p = some g) (l : List (List UInt8)) (o : Option (List (List UInt8))) :
    whole G (p :: l, o) = whole (G ++ [g]) (l, o) := by
  cases o with
  | none =>
    simp only [whole, sideP]
    rw [if_neg (fun h => hd h.2.2), hg]
    cases sideP true l with
    | none => rfl
    | some x =>
      simp only [Option.map_some, List.length_append, List.length_cons, List.length_nil, List.append_assoc, List.cons_append, List.nil_append]
      by_cases h : G.length + (x.length + 1) = 8
      · rw [if_pos h, if_pos (by omega)]
      · rw [if_neg h, if_neg (by omega)]
  | some r =>
    simp only [whole, sideP]
    rw [if_neg (fun h => hd h.2.2), hg]
    cases sideP false l with
    | none => rfl
    | some x =>
      cases sideQ r with
      | none => rfl
      | some y =>
        simp only [Option.map_some, List.length_append, List.length_cons, List.length_nil, List.append_assoc, List.cons_append, List.nil_append]
        by_cases h : G.length + (x.length + 1) + y.length ≤ 7
        · rw [if_pos h, if_pos (by omega), show 8 - G.length - (x.length + 1) - y.length = 8 - (G.length + (0 + 1)) - x.length - y.length by omega]
        · rw [if_neg h, if_neg (by omega)]
theorem whole_full {G : List Nat} (h : 8 ≤ G.length) {l : List (List UInt8)} (hl : l ≠ []) (o : Option (List (List UInt8))) (hx : ∀ p ∈ l, (46 : UInt8) ∉ p) : whole G (l, o) = none := by
  match l, hl, hx with
  | p :: l, _, hx =>
    have hd := hx p (by simp)
    cases hg : hex16 p with
    | none =>
      cases o with
      | none => simp only [whole, sideP]; rw [if_neg (fun h => hd h.2.2), hg]
      | some r => simp only [whole, sideP]; rw [if_neg (fun h => hd h.2.2), hg]
    | some g =>
      rw [whole_cons hd hg]
      cases o with
      | none =>
        simp only [whole]
        cases sideP true l with
        | none => rfl
        | some x => simp only [List.length_append, List.length_cons, List.length_nil]; rw [if_neg (by omega)]
      | some r =>
        simp only [whole]
        cases sideP false l with
        | none => rfl
        | some x => cases sideQ r with
          | none => rfl
          | some y => simp only [List.length_append, List.length_cons, List.length_nil]; rw [if_neg (by omega)]
theorem cutP_fst_ne (c : UInt8) : ∀ (n : Nat) (q : List (List UInt8)), q.length ≤ n → q ≠ [] → (cutP q).1 ≠ []
  | _, [], _, h => absurd rfl h
  | _, p :: q, _, _ => by
    obtain ⟨l, h1, _, _⟩ := cutP_head p p q
    rw [h1]; simp
theorem refP_none : ∀ (n : Nat) (ps : List (List UInt8)) (G : List Nat), ps.length ≤ n → ps ≠ [] → refP ps G none = whole G (cutP ps)
  | 0, [], _, _, h => absurd rfl h
  | n + 1, [], _, _, h => absurd rfl h
  | n + 1, p :: q, G, hn, _ => by
    rw [refP]
    by_cases hd : (46 : UInt8) ∈ p
    · rw [if_pos hd]
      by_cases hq : q = []
      · subst hq
        rw [if_pos rfl, cutP_one]
        simp only [whole, sideP]
        rw [if_pos ⟨by trivial, by trivial, hd⟩]
        cases four (pieces 46 p) with
        | none => rfl
        | some t => simp only [Option.map_some, fin, List.length_append]
      · rw [if_neg hq]
        have hx := hex16_dot hd
        match q, hq with
        | [[]], _ => rw [cutP_two]; simp only [whole, sideP]; rw [if_neg (by simp), hx]
        | [] :: c :: q', _ => rw [cutP_hit]; simp only [whole, sideP]; rw [if_neg (by simp), hx]
        | (x :: a) :: q', _ =>
          rw [cutP_go _ _ _ (by simp)]
          have hne : (cutP ((x :: a) :: q')).1 ≠ [] := cutP_fst_ne 58 _ _ (Nat.le_refl _) (by simp)
          cases (cutP ((x :: a) :: q')).2 with
          | none => simp only [whole, sideP]; rw [if_neg (fun h => hne h.2.1), hx]
          | some r => simp only [whole, sideP]; rw [if_neg (by simp), hx]
    · rw [if_neg hd]
      cases hg : hex16 p with
      | none =>
        obtain ⟨l, h1, _, _⟩ := cutP_head p p q
        have : cutP (p :: q) = (p :: l, (cutP (p :: q)).2) := Prod.ext h1 rfl
        rw [this]
        cases (cutP (p :: q)).2 with
        | none => simp only [whole, sideP]; rw [if_neg (fun h => hd h.2.2), hg]
        | some r => simp only [whole, sideP]; rw [if_neg (fun h => hd h.2.2), hg]
      | some g =>
        by_cases h8 : 8 ≤ G.length
        · simp only [h8, if_true]
          obtain ⟨l, h1, _, _⟩ := cutP_head p p q
          have : cutP (p :: q) = (p :: l, (cutP (p :: q)).2) := Prod.ext h1 rfl
          rw [this, whole_cons hd hg]
          cases (cutP (p :: q)).2 with
          | none =>
            simp only [whole]
            cases sideP true l with
            | none => rfl
            | some x => simp only [List.length_append, List.length_cons, List.length_nil]; rw [if_neg (by omega)]
          | some r =>
            simp only [whole]
            cases sideP false l with
            | none => rfl
            | some x => cases sideQ r with
              | none => rfl
              | some y => simp only [List.length_append, List.length_cons, List.length_nil]; rw [if_neg (by omega)]
        · simp only [h8, if_false]
          match q, hn with
          | [], _ =>
            rw [cutP_one, whole_cons hd hg]
            simp only [whole, sideP, fin, List.append_nil, List.length_nil, Nat.add_zero]
          | [[]], _ =>
            rw [cutP_two, whole_cons hd hg]
            simp [whole, sideP, hex16_nil]
          | [] :: c :: q', hn =>
            rw [cutP_hit, whole_cons hd hg]
            simp only [whole, sideP, Option.isSome_none, Bool.false_eq_true, if_false, List.append_nil, List.length_nil]
            unfold sideQ
            by_cases hc : c = [] ∧ q' = []
            · obtain ⟨rfl, rfl⟩ := hc
              rw [if_pos ⟨rfl, rfl⟩, if_pos rfl]
              simp only [fin, List.length_append, List.length_cons, List.length_nil, Nat.add_zero, Nat.zero_add, Nat.sub_zero, List.append_nil]
              rw [List.take_of_length_le (by simp), List.drop_of_length_le (by simp), List.append_nil]
            · rw [if_neg hc, if_neg (fun h => hc (by injection h with h1 h2; exact ⟨h1, h2⟩)), refP_gap (c :: q') (G ++ [g]) (G.length + 1) (by simp) (by simp)]
              cases sideP true (c :: q') with
              | none => rfl
              | some r =>
                simp only [List.length_append, List.length_cons, List.length_nil, Nat.add_zero, Nat.zero_add, Nat.sub_zero, List.append_nil]
                rw [List.take_of_length_le (by simp), List.drop_of_length_le (by simp), List.nil_append]
          | (x :: a) :: q', hn =>
            show refP ((x :: a) :: q') (G ++ [g]) none = _
            rw [cutP_go _ _ _ (by simp), whole_cons hd hg, refP_none n ((x :: a) :: q') (G ++ [g]) (by simpa using hn) (by simp)]
/-- the reference reads what the pieces tell -/
theorem refA_eq {s : List UInt8} (h : (58 : UInt8) ∈ s) : refA s = parseA s := by
  unfold refA parseA
  rw [if_pos h]
  have hs0 : s ≠ [] := by rintro rfl; simp at h
  obtain ⟨c1, c2⟩ := cut_pieces s
  by_cases hp : [58, 58].isPrefixOf s = true
  · rw [if_pos hp]
    have hc : cutL s = ([], s.drop 2, true) := by
      match s, hp, hs0 with
      | x :: r, hp, _ => rw [cutL, if_pos hp]; simp
    rw [hc]
    simp only [Bool.not_true]
    have e1 : side false [] = some [] := rfl
    rw [e1]
    unfold side
    by_cases hr : s.drop 2 = []
    · rw [if_pos hr, if_pos hr]; simp [fin]
    · rw [if_neg hr, if_neg hr]
      rw [refP_gap _ [] 0 (pieces_ne 58 _) (by simp)]
      cases sideP true (pieces 58 (s.drop 2)) with
      | none => rfl
      | some r => simp
  · rw [if_neg hp, refP_none _ _ [] (Nat.le_refl _) (pieces_ne 58 s)]
    cases hc : (cutL s).2.2 with
    | false =>
      rw [c1 hc]
      obtain ⟨i1, i2⟩ := (index_cut s).1 hc |>.2
      rw [i1, i2]
      unfold side
      simp only [whole, Bool.not_false, hs0, if_false, if_true]
      cases sideP true (pieces 58 s) with
      | none => rfl
      | some x =>
        simp only [List.nil_append, List.length_nil, Nat.zero_add, Nat.add_zero]
        by_cases h8 : x.length = 8
        · rw [if_pos h8, if_pos (.inr ⟨by trivial, h8⟩)]; simp [nulls, h8]
        · rw [if_neg h8, if_neg (by rintro (⟨h, _⟩ | ⟨_, h⟩); cases h; exact h8 h)]
    | true =>
      rw [c2 hc]
      have ha : (cutL s).1 ≠ [] := by
        intro e
        have := (index_cut s).2 hc |>.2
        rw [e] at this
        apply hp
        rw [this]; simp [List.isPrefixOf]
      have e1 : side (!true) (cutL s).1 = sideP false (pieces 58 (cutL s).1) := by unfold side; rw [if_neg ha]; rfl
      have e2 : side true (cutL s).2.1 = sideQ (pieces 58 (cutL s).2.1) := by
        unfold side sideQ
        by_cases hr : (cutL s).2.1 = []
        · rw [if_pos hr, if_pos (by rw [hr]; rfl)]
        · rw [if_neg hr, if_neg]
          intro hq
          rcases pieces_empty hq with ⟨h1, _⟩ | ⟨r, h1, h2⟩
          · exact hr h1
          · exact pieces_ne 58 r h2.symm
      rw [e1, e2]
      simp only [whole]
      cases sideP false (pieces 58 (cutL s).1) with
      | none => rfl
      | some x => cases sideQ (pieces 58 (cutL s).2.1) with
        | none => rfl
        | some y =>
          simp only [List.nil_append, List.length_nil, Nat.zero_add, Nat.sub_zero]
          by_cases h7 : x.length + y.length ≤ 7
          · rw [if_pos h7, if_pos (.inl ⟨by trivial, h7⟩)]
          · rw [if_neg h7, if_neg (by rintro (⟨_, h⟩ | ⟨h, _⟩); exact h7 h; cases h)]
end Go.Proofs.YtgdgklibilddgaaDoor
